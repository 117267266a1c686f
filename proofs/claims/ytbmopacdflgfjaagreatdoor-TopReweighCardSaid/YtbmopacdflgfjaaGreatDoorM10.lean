/- Steps of the proof. -/
import Derived.Test.YtbmopacdflgfjaaGreatDoorM05
import Derived.Lib.ValidU
import Derived.Lib.AtoiAll
import Derived.Lib.ItoaNum
import Derived.Lib.SlicesCompact
set_option maxHeartbeats 40000000
set_option maxRecDepth 100000
namespace Go.Proofs.YtbmopacdflgfjaaGreatDoor
open Go
def yY (s:ByteArray):Nat→Nat→Bool
 | 0,_=>true
 | n+1,k=>if k<s.size then(if(Utf8.decode s k).1<32∨(Utf8.decode s k).1=127 then false else yY s n (k+(Utf8.decode s k).2)) else true
def IV (s:ByteArray):Bool:=decide (s.size≤200)&&Lib.validD s.data.toList&&yY s s.size 0
def xe (s:List UInt8):Bool:=IV ⟨s.toArray⟩
def Xc (d:List UInt8):Bool:=d.all fun b=>decide (48≤b.toNat)&&decide (b.toNat≤57)
def Me (s:List UInt8):Option Int:=
 if Lib.trimPrefix s [45]=[]∨((Lib.trimPrefix s [45]).head? =some 48∧(1<(Lib.trimPrefix s [45]).length∨Lib.hasPrefix s [45]=true)) then none
 else if Xc (Lib.trimPrefix s [45])=true then
   match Lib.atoiAll s with
   | .ok v=>if v< -1099511627776∨1099511627776<v then none else some v
   | _=>none
 else none
def jS (s:ByteArray):Option Int:=match Me s.data.toList with
 | some n=>if n<0∨999999<n then none else some n
 | none=>none
def oH (s:ByteArray):List ByteArray:=Lib.splitB ⟨#[46]⟩ 0 (Lib.countB s ⟨#[46]⟩) s
def kr (s:ByteArray):Option (Int × Int × Int):=match oH s with
 | [a,b,c]=>match jS a,jS b,jS c with
   | some x,some y,some z=>some (x,y,z)
   | _,_,_=>none
 | _=>none
def DX (s:List UInt8):Option (Int × Int × Int):=kr ⟨s.toArray⟩
def Hf (a b:List UInt8):Bool:=decide (a<b)
def IP:List (List UInt8)→Bool
 | a::b::l=>Hf a b&&IP (b::l)
 | _=>true
def BN (v:VA):Bool:=
 if v.kind=1∨v.kind=2 then v.text.isEmpty&&((v.list.length:Int)==0)
 else if v.kind=3∨v.kind=4 then(v.num==0)&&((v.list.length:Int)==0)
 else(v.num==0)&&v.text.isEmpty
def rO (v:VA):Int:=
 if v.kind<1∨5<v.kind then 7
 else if BN v=false then 15
 else if v.kind=1 then(if v.num≠0∧v.num≠1 then 3 else 0)
 else if v.kind=2 then(if v.num< -1099511627776∨1099511627776<v.num then 3 else 0)
 else if v.kind=3 then(if xe v.text then 0 else 2)
 else if v.kind=4 then(if(DX v.text).isSome then 0 else 1)
 else if 20<v.list.length then 5
 else if v.list.all xe=false then 2
 else if IP v.list=false then 9
 else 0
def PI (a b:Int):Int:=if a<b then-1 else if b<a then 1 else 0
def Sq (a b:List UInt8):Int:=if Hf a b then-1 else if Hf b a then 1 else 0
def ab3 (p q:Int × Int × Int):Int:=
 if PI p.1 q.1≠0 then PI p.1 q.1 else if PI p.2.1 q.2.1≠0 then PI p.2.1 q.2.1 else PI p.2.2 q.2.2
def jL (a b:VA):Int × Int:=
 if rO a≠0 then(0,rO a)
 else if rO b≠0 then(0,rO b)
 else if a.kind≠b.kind∨a.kind=1∨a.kind=5 then(0,8)
 else if a.kind=2 then(PI a.num b.num,0)
 else if a.kind=3 then(Sq a.text b.text,0)
 else(ab3 ((DX a.text).getD (0,0,0)) ((DX b.text).getD (0,0,0)),0)
def aiM:List UInt8:=[107,101,121]
def lW (s:List CX) (kind:List UInt8):Option CX:=s.find? fun c=>c.kind==kind
def Dy (s:List CX) (kind name:List UInt8):Option VA:=match lW s kind with
 | none=>none
 | some c=>if name=aiM then some ⟨3,0,c.key,[]⟩ else(c.attrs.find? fun a=>a.name==name).map AT.value
def testW (v w:VA) (op:Int):Bool:=
 if op=7 then decide (v=w)
 else if op=9 then((v.kind==3)&&(w.kind==3))&&Lib.hasPrefix v.text w.text
 else if op=10 then((v.kind==3)&&(w.kind==3))&&Lib.hasSuffix v.text w.text
 else if op=11 then(((v.kind==3)&&(w.kind==3))&&Lib.contains v.text w.text)||((w.kind==3)&&(v.kind==5)&&v.list.contains w.text)
 else if(jL v w).2≠0 then false
 else if op=12 then decide ((jL v w).1<0)
 else if op=13 then decide ((jL v w).1≤0)
 else if op=14 then decide (0<(jL v w).1)
 else decide (0≤(jL v w).1)
def yX (v:VA) (op:Int) (vals:List VA):Bool:=
 if op<6∨15<op then false
 else if op=6 then true
 else if op=8 then vals.any fun w=>decide (v=w)
 else match vals with
   | []=>false
   | w::_=>testW v w op
def FC (s:List CX) (op:Int) (kind name:List UInt8) (vals:List VA):Bool:=match Dy s kind name with
 | none=>false
 | some v=>yX v op vals
def iM (s:List CX) (ins:List (List UInt8)):Nat→EX→Bool
 | 0,_=>false
 | d+1,.mk op kind name vals kids=>
   if op=1 then true
   else if op=2 then kids.all (iM s ins d)
   else if op=3 then kids.any (iM s ins d)
   else if op=4 then(match kids with|[]=>false|k::_=> !(iM s ins d k))
   else if op=5 then ins.contains name
   else FC s op kind name vals
def E9 {α:Type} (p:α→α→Bool):List α→List α→Bool
 | [],[]=>true
 | a::l,b::m=>p a b&&E9 p l m
 | _,_=>false
def uw:Nat→EX→EX→Bool
 | 0,_,_=>false
 | d+1,.mk op kind name vals kids,.mk DY abB abw GV Hm=>
   decide (op=DY)&&(decide (kind=abB)&&(decide (name=abw)&&(E9 (fun x y:VA=>decide (x=y)) vals GV&&E9 (uw d) kids Hm)))
def gI:Nat→List EX→EX→List EX
 | 0,l,_=>l
 | d+1,l,.mk op kind name vals kids=>
   kids.foldl (gI d) (if((decide (6≤op∧op≤15)||decide (op=5))&& !(l.any fun x=>uw lvl x (.mk op kind name vals kids)))=true then l++[.mk op kind name vals kids] else l)
def nX:EX→List UInt8
 | .mk _ _ name _ _=>name
def xu:EX→Int
 | .mk op _ _ _ _=>op
def mh (e:EX):List (List UInt8):=((gI lvl [] e).filter fun a=>decide (xu a=5)).map nX
def ib (l:List (List UInt8)):List (List UInt8):=l.mergeSort fun x y=>decide (x≤y)
def Am (l:List (List UInt8)):List (List UInt8):=Lib.compact (ib l)
def u7 (needs:List (List UInt8 × List UInt8)) (out:List (List UInt8)) (a:List UInt8):Bool:=needs.all fun e=> !(e.1==a)||out.contains e.2
def Dk (needs:List (List UInt8 × List UInt8)):Nat→List (List UInt8)→List (List UInt8)→Option (List (List UInt8))
 | 0,_,out=>some out
 | n+1,left,out=>
   match left.findIdx? (u7 needs out) with
   | none=>none
   | some i=>Dk needs n (left.eraseIdx i) (out++[left.getD i []])
def qz (nodes:List (List UInt8)) (needs:List (List UInt8 × List UInt8)):Option (List (List UInt8)):=
 if(Am nodes).length≠(ib nodes).length then none
 else if needs.all (fun e=>(ib nodes).contains e.1&&(ib nodes).contains e.2)=false then none
 else Dk needs (ib nodes).length (ib nodes) []
def WY:EX→Int
 | .mk op _ _ _ _=>op
def xy (s:List CX) (ins:List (List UInt8)) (g:gJ):Bool:=match lW s g.kind with
 | none=>false
 | some c=>if g.excl.contains c.key then false else g.R7.contains c.key||(decide (WY g.cond≠0)&&iM s ins lvl g.cond)
def PU:gJ:=⟨[],[],[],[],.mk 0 [] [] [] []⟩
def xQ (l:List gJ) (key:List UInt8):gJ:=(l.reverse.find? fun g=>g.key==key).getD PU
def kK (l:List gJ) (s:List CX):List (List UInt8)→List (List UInt8)→List (List UInt8)
 | [],ins=>ins
 | k::r,ins=>kK l s r (if xy s ins (xQ l k) then ins++[k] else ins)
def gV (l:List gJ) (s:List CX):List (List UInt8):=
 match qz (l.map gJ.key) (l.flatMap fun g=>(Am (mh g.cond)).map fun n=>(g.key,n)) with
 | none=>[]
 | some o=>ib (kK l s o [])
def uB (hash:List UInt8→List UInt8→Nat) (aN key:List UInt8):Int:=((hash aN key%10000:Nat):Int)
def Pd (v:VA):Option (List UInt8):=
 if v.kind=3∨v.kind=4 then some v.text
 else if v.kind=2 then some (Lib.itoa v.num)
 else if v.kind=1 then some (if v.num=1 then[116,114,117,101] else[102,97,108,115,101])
 else none
def vX (hash:List UInt8→List UInt8→Nat) (s:List CX) (kind iq aN:List UInt8):Option Int:=match Dy s kind iq with
 | none=>none
 | some v=>(Pd v).map (uB hash aN)
def uW (hash:List UInt8→List UInt8→Nat) (v:EN) (s:List CX):Bool:=
 if v.hold≤0 then false else match lW s v.eQ with
   | none=>false
   | some c=>decide (uB hash v.aN c.key<v.hold)
def G7 (v:EN) (f:FO):Bool:=v.cz.any fun(x:XP)=>x.key==f.exp&&x.layer==f.layer&&decide (x.status=(2:Int))&&x.arms.any fun r=>decide (r.var=f.arm)
def Ab (v:EN) (s:List CX) (e:List UInt8):Bool:=match v.cz.find? (fun x=>x.key==e) with
 | none=>false
 | some x=>iM s (gV v.cK s) lvl x.cond
def gL (hash:List UInt8→List UInt8→Nat) (v:EN) (s:List CX) (fo:List FO) (key:List UInt8):Option (List UInt8 × Int):=
 match v.layers.find? (fun l=>l.key==key) with
 | none=>none
 | some l=>
   let c:=lW s l.kind
   let b:Int:=match c with|none=> -1|some c=>uB hash l.aN c.key
   let rest:Option (List UInt8 × Int):=
     if uW hash v s||(c.isSome&&decide (b<l.hold)) then some ([],0)
     else match c with
       | none=>some ([],0)
       | some c=>match v.cz.find? (fun(x:XP)=>x.layer==key&&decide (x.status=(2:Int))&&x.claims.any (fun p=>decide (p.lo≤b)&&decide (b<p.hi))&&Ab v s x.key) with
         | none=>some ([],0)
         | some x=>some (x.key,pick x.arms (uB hash x.aN c.key))
   match fo.find? (fun f=>f.layer==key) with
   | none=>rest
   | some f=>if f.exp=[] then some ([],0) else if G7 v f then some (f.exp,f.arm) else rest
def yU (hash:List UInt8→List UInt8→Nat) (v:EN) (s:List CX) (x:XP):Int:=match v.layers.find? (fun l=>l.key==x.layer) with
 | none=> -1
 | some l=>match lW s l.kind with
   | none=> -1
   | some c=>uB hash x.aN c.key
def YG (hash:List UInt8→List UInt8→Nat) (v:EN) (s:List CX) (fo:List FO) (flag:List UInt8):Option (Int × List UInt8 × Int):=
 match v.cz.find? (fun(x:XP)=>x.flag==flag&&decide (x.status=(2:Int))&&(match gL hash v s fo x.layer with|some (e,_)=>e==x.key|none=>false)) with
 | none=>none
 | some x=>match gL hash v s fo x.layer with
   | none=>none
   | some (_,arm)=>some (arm,x.key,yU hash v s x)
def Ev (s:List CX) (l:List TG):Nat:=match l.findIdx? (fun t=>match lW s t.kind with|none=>false|some c=>t.keys.contains c.key) with
 | none=>0
 | some i=>i+1
def lg (hash:List UInt8→List UInt8→Nat) (v:EN) (s:List CX) (fo:List FO):OR:=
 ⟨fun k=>v.flags.find? fun f=>f.key==k,Ev s,YG hash v s fo,iM s (gV v.cK s) lvl,vX hash s⟩
end Go.Proofs.YtbmopacdflgfjaaGreatDoor
namespace Go.Proofs.YtbmopacdflgfjaaGreatDoor
open Go Go.RowKit Go.Proofs.Tryz
def vz {α:Type} (p:α→Bool) (l:List α):Int:=match l.findIdx? p with|some i=>(i:Int)|none=> -1
def vJ {α:Type} (P:Program) (w:World) (av:Nat→Prop) (R:Rel α) (c:FuncId) (gU:Array Value) (p:α→Bool) (l:List α):Prop:=
 ∀(W:World) (cs:List Value) (x:α),Below w.heap.size w W→x∈l→R W av cs x→Calls P c (#[.agg cs.toArray]++gU) W fun e w'=>e= .returned (.bool (p x))∧Below W.heap.size W w'
theorem vL {α:Type} {p:α→Bool} {l:List α} {k:Nat} (hk:k<l.length) (h:∀j (hj:j<k),p (l[j]'z7)=false) (hp:p (l[k]'hk)=true):vz p l=(k:Int):=by
 unfold vz;have:l.findIdx? p=some k:=by rw[List.findIdx?_eq_some_iff_getElem];exact⟨hk,hp,fun j hj=>by simpa using h j hj⟩
 rw[this]
theorem tX {α:Type} {p:α→Bool} {l:List α} (h:∀j (hj:j<l.length),p (l[j]'hj)=false):vz p l=-1:=by
 unfold vz;have:l.findIdx? p=none:=by rw[List.findIdx?_eq_none_iff];intro x hx;obtain⟨j,hj,e⟩:=List.getElem_of_mem hx;rw[←e];exact h j hj
 rw[this]
theorem JF {α:Type} {p:α→Bool} {l:List α}:l.any p=decide (0≤vz p l):=by
 unfold vz;cases h:l.findIdx? p with
 |none=>rw[List.findIdx?_eq_none_iff] at h;rw[List.any_eq_false.2 (fun x hx=>by simpa using h x hx)];rfl
 |some i=>obtain⟨h1,h2,_⟩:=List.findIdx?_eq_some_iff_getElem.1 h;have:l.any p=true:=List.any_eq_true.2 ⟨_,List.getElem_mem h1,h2⟩;rw[this];simp
theorem aa7:(prog.info? 74).map (·.size)=some 3:=by kernel_rfl
theorem anp  (av:Nat→Prop) (v:Value) (l:List CX) (c:FuncId) (gU:Array Value) (p:CX→Bool) (w:World) (hv:Ls 3 (qC) w av v l) (hc:vJ prog w av (qC) c gU p l) (he:∀(xs:Array Value) (W:World),(callFunc c xs).run prog W= .ok (.enter c xs) W):
   Calls prog 208 #[v,.func (.func c) #[] gU] w fun e w'=>e= .returned (.int .i64 (vz p l))∧Below w.heap.size w w':=zbj (zt 1)
theorem ajs:(prog.info? 46).map (·.size)=some 13:=by kernel_rfl
theorem ajX  (av:Nat→Prop) (v:Value) (l:List FL) (c:FuncId) (gU:Array Value) (p:FL→Bool) (w:World) (hv:Ls 13 (ku) w av v l) (hc:vJ prog w av (ku) c gU p l) (he:∀(xs:Array Value) (W:World),(callFunc c xs).run prog W= .ok (.enter c xs) W):
   Calls prog 51 #[v,.func (.func c) #[] gU] w fun e w'=>e= .returned (.int .i64 (vz p l))∧Below w.heap.size w w':=zbj (zt 2)
theorem ain:(prog.info? 85).map (·.size)=some 6:=by kernel_rfl
theorem aiQ  (av:Nat→Prop) (v:Value) (l:List LY) (c:FuncId) (gU:Array Value) (p:LY→Bool) (w:World) (hv:Ls 6 (wB) w av v l) (hc:vJ prog w av (wB) c gU p l) (he:∀(xs:Array Value) (W:World),(callFunc c xs).run prog W= .ok (.enter c xs) W):
   Calls prog 117 #[v,.func (.func c) #[] gU] w fun e w'=>e= .returned (.int .i64 (vz p l))∧Below w.heap.size w w':=zbj (zt 3)
theorem ajr:(prog.info? 134).map (·.size)=some 2:=by kernel_rfl
theorem ajW  (av:Nat→Prop) (v:Value) (l:List SP) (c:FuncId) (gU:Array Value) (p:SP→Bool) (w:World) (hv:Ls 2 (kU) w av v l) (hc:vJ prog w av (kU) c gU p l) (he:∀(xs:Array Value) (W:World),(callFunc c xs).run prog W= .ok (.enter c xs) W):
   Calls prog 174 #[v,.func (.func c) #[] gU] w fun e w'=>e= .returned (.int .i64 (vz p l))∧Below w.heap.size w w':=zbj (zt 4)
theorem aet  (av:Nat→Prop) (v:Value) (l:List SP) (c:FuncId) (gU:Array Value) (p:SP→Bool) (w:World) (hv:Ls 2 (kU) w av v l) (hc:vJ prog w av (kU) c gU p l) (he:∀(xs:Array Value) (W:World),(callFunc c xs).run prog W= .ok (.enter c xs) W):
   Calls prog 123 #[v,.func (.func c) #[] gU] w fun e w'=>e= .returned (.bool (l.any p))∧Below w.heap.size w w':=by have HI:=aa (ajW  av v l c gU p w hv hc he);clear hv hc;go_enter func123,ntmps123;exact z6V
theorem ajt:(prog.info? 90).map (·.size)=some 5:=by kernel_rfl
theorem ajY (d:Nat) (av:Nat→Prop) (v:Value) (l:List EX) (c:FuncId) (gU:Array Value) (p:EX→Bool) (w:World) (hv:Ls 5 (eT d) w av v l) (hc:vJ prog w av (eT d) c gU p l) (he:∀(xs:Array Value) (W:World),(callFunc c xs).run prog W= .ok (.enter c xs) W):
   Calls prog 175 #[v,.func (.func c) #[] gU] w fun e w'=>e= .returned (.int .i64 (vz p l))∧Below w.heap.size w w':=zbj (zt 5)
theorem Re (d:Nat) (av:Nat→Prop) (v:Value) (l:List EX) (c:FuncId) (gU:Array Value) (p:EX→Bool) (w:World) (hv:Ls 5 (eT d) w av v l) (hc:vJ prog w av (eT d) c gU p l) (he:∀(xs:Array Value) (W:World),(callFunc c xs).run prog W= .ok (.enter c xs) W):
   Calls prog 128 #[v,.func (.func c) #[] gU] w fun e w'=>e= .returned (.bool (l.any p))∧Below w.heap.size w w':=by have HI:=aa (ajY d av v l c gU p w hv hc he);clear hv hc;go_enter func128,ntmps128;exact z6V
theorem ang:(prog.info? 92).map (·.size)=some 12:=by kernel_rfl
theorem ano  (av:Nat→Prop) (v:Value) (l:List XP) (c:FuncId) (gU:Array Value) (p:XP→Bool) (w:World) (hv:Ls 12 (uz) w av v l) (hc:vJ prog w av (uz) c gU p l) (he:∀(xs:Array Value) (W:World),(callFunc c xs).run prog W= .ok (.enter c xs) W):
   Calls prog 220 #[v,.func (.func c) #[] gU] w fun e w'=>e= .returned (.int .i64 (vz p l))∧Below w.heap.size w w':=zbj (zt 6)
theorem anA  (av:Nat→Prop) (v:Value) (l:List XP) (c:FuncId) (gU:Array Value) (p:XP→Bool) (w:World) (hv:Ls 12 (uz) w av v l) (hc:vJ prog w av (uz) c gU p l) (he:∀(xs:Array Value) (W:World),(callFunc c xs).run prog W= .ok (.enter c xs) W):
   Calls prog 170 #[v,.func (.func c) #[] gU] w fun e w'=>e= .returned (.bool (l.any p))∧Below w.heap.size w w':=by have HI:=aa (ano  av v l c gU p w hv hc he);clear hv hc;go_enter func170,ntmps170;exact z6V
theorem aim:(prog.info? 71).map (·.size)=some 3:=by kernel_rfl
theorem aiP  (av:Nat→Prop) (v:Value) (l:List RG) (c:FuncId) (gU:Array Value) (p:RG→Bool) (w:World) (hv:Ls 3 (oL) w av v l) (hc:vJ prog w av (oL) c gU p l) (he:∀(xs:Array Value) (W:World),(callFunc c xs).run prog W= .ok (.enter c xs) W):
   Calls prog 221 #[v,.func (.func c) #[] gU] w fun e w'=>e= .returned (.int .i64 (vz p l))∧Below w.heap.size w w':=zbj (zt 7)
theorem ai8  (av:Nat→Prop) (v:Value) (l:List RG) (c:FuncId) (gU:Array Value) (p:RG→Bool) (w:World) (hv:Ls 3 (oL) w av v l) (hc:vJ prog w av (oL) c gU p l) (he:∀(xs:Array Value) (W:World),(callFunc c xs).run prog W= .ok (.enter c xs) W):
   Calls prog 172 #[v,.func (.func c) #[] gU] w fun e w'=>e= .returned (.bool (l.any p))∧Below w.heap.size w w':=by have HI:=aa (aiP  av v l c gU p w hv hc he);clear hv hc;go_enter func172,ntmps172;exact z6V
theorem AZ:(prog.info? 60).map (·.size)=some 4:=by kernel_rfl
theorem aiO  (av:Nat→Prop) (v:Value) (l:List VA) (c:FuncId) (gU:Array Value) (p:VA→Bool) (w:World) (hv:Ls 4 (gG) w av v l) (hc:vJ prog w av (gG) c gU p l) (he:∀(xs:Array Value) (W:World),(callFunc c xs).run prog W= .ok (.enter c xs) W):
   Calls prog 222 #[v,.func (.func c) #[] gU] w fun e w'=>e= .returned (.int .i64 (vz p l))∧Below w.heap.size w w':=zbj (zt 8)
theorem ai7  (av:Nat→Prop) (v:Value) (l:List VA) (c:FuncId) (gU:Array Value) (p:VA→Bool) (w:World) (hv:Ls 4 (gG) w av v l) (hc:vJ prog w av (gG) c gU p l) (he:∀(xs:Array Value) (W:World),(callFunc c xs).run prog W= .ok (.enter c xs) W):
   Calls prog 178 #[v,.func (.func c) #[] gU] w fun e w'=>e= .returned (.bool (l.any p))∧Below w.heap.size w w':=by have HI:=aa (aiO  av v l c gU p w hv hc he);clear hv hc;go_enter func178,ntmps178;exact z6V
end Go.Proofs.YtbmopacdflgfjaaGreatDoor
namespace Go.Proofs.YtbmopacdflgfjaaGreatDoor
theorem Gr {f f':FL} (hf:f'.key=f.key) (a:List UInt8):∀(l:List FL) (k:Nat),l[k]? =some f→(∀i g,l[i]? =some g→g.key=f.key→i=k)→
   (a≠f.key→(l.set k f').find? (fun g=>g.key==a)=l.find? (fun g=>g.key==a))∧
   (a=f.key→(l.set k f').find? (fun g=>g.key==a)=some f'∧l.find? (fun g=>g.key==a)=some f)
 | [],_,h,_=>by simp at h
 | g::l,0,h,hu=>by
  simp only[List.getElem?_cons_zero,Option.some.injEq] at h;subst h;refine⟨fun ha=>?_,fun ha=>?_⟩
  ·have h1:(f'.key==a)=false:=by rw[hf];simpa using fun e=>ha e.symm
   have h2:(g.key==a)=false:=by simpa using fun e=>ha e.symm
   simp[h1,h2]
  ·subst ha;simp[hf]
 | g::l,k+1,h,hu=>by
  rw[List.getElem?_cons_succ] at h
  have ih:=Gr hf a l k h (fun i x hx e=>by
    have:=hu (i+1) x z4q e
    omega)
  have hg:g.key≠f.key:=fun e=>by have:=hu 0 g rfl e;omega
  rw[List.set_cons_succ];refine⟨fun ha=>?_,fun ha=>?_⟩
  ·simp only[List.find?_cons,ih.1 ha]
  ·subst ha;have h2:(g.key==f.key)=false:=by simpa using hg
   simp only[List.find?_cons,h2,(ih.2 rfl).1,(ih.2 rfl).2];exact⟨trivial,trivial⟩
def xq (v:EN) (k:Nat) (f:FL) (s:List RG):EN:=⟨v.aN,v.eQ,v.hold,v.attrs,v.cK,v.flags.set k (f.gq s),v.layers,v.cz⟩
theorem RX (hash:List UInt8→List UInt8→Nat) (v:EN) (s:List CX) (fo:List FO) (k:Nat) (f:FL) (sp:List RG):
   lg hash (xq v k f sp) s fo=(lg hash v s fo).with_ (fun a=>(v.flags.set k (f.gq sp)).find? fun g=>g.key==a):=rfl
theorem aje {hash:List UInt8→List UInt8→Nat} {s:List CX} {kind iq aN:List UInt8} {b:Int} (h:vX hash s kind iq aN=some b):0≤b∧b<10000:=by
 unfold vX at h;split at h
 ·cases h
 ·rename_i v _;cases hq:Pd v with
  |none=>rw[hq] at h;cases h
  |some k=>rw[hq] at h;simp only[Option.map_some,Option.some.injEq,uB] at h;omega
def sV (l:List RG):Nat→Nat:=fun i=>(pick l (i:Int)).toNat
theorem aij (hash:List UInt8→List UInt8→Nat) (v:EN) (s:List CX) (fo:List FO) (k:Nat) (f:FL) (hk:v.flags[k]? =some f) (hu:∀i g,v.flags[i]? =some g→g.key=f.key→i=k)
   (hd:f.dflt.var=0) (n:Nat) (hv:VS n f.dflt.split) (sp:List RG) (w:Nat→Nat) (hs:∀b:Nat,b<10000→pick sp b≠pick f.dflt.split b→w (sV f.dflt.split b)<cnt (sV f.dflt.split) 10000 (sV f.dflt.split b)) (m:Nat)
   (a b:DE) (ha:(dD (lg hash v s fo) (m+1) ⟨[],[]⟩ f).1=a) (hb:(dD (lg hash (xq v k f sp) s fo) (m+1) ⟨[],[]⟩ (f.gq sp)).1=b):
   b.why=a.why∧(a.why.kind≠6→b=a)∧(a.why.kind=6→a.var=b.var∨(1≤a.var∧a.var≤n∧w a.var.toNat<cnt (sV f.dflt.split) 10000 a.var.toNat)):=by
 have hap:Apart (lg hash v s fo) (fun a=>(v.flags.set k (f.gq sp)).find? fun g=>g.key==a) f.key f (f.gq sp):=by refine⟨fun x hx=>(Gr (f:=f) (f':=f.gq sp) rfl x _ k hk hu).1 hx,fun x g hg=>?_,((Gr (f:=f) (f':=f.gq sp) rfl f.key _ k hk hu).2 rfl).2,((Gr (f:=f) (f':=f.gq sp) rfl f.key _ k hk hu).2 rfl).1,rfl,rfl⟩;have:=List.find?_some hg;exact z8O
 rw[RX] at hb;obtain⟨h1,h2,h3⟩:=Sm hap m rfl;rw[ha,hb] at h1 h2 h3;refine⟨h1,h2,fun h6=>?_⟩;obtain⟨q,hq,h4,h5⟩:=h3 h6 hd;have hr:=aje hq;obtain⟨j,rfl⟩:∃j:Nat,q=(j:Int):=⟨q.toNat,z7⟩;have hp:=hv.Di hr.1 hr.2;by_cases he:pick sp (j:Int)=pick f.dflt.split (j:Int)
 ·exact .inl (by rw[h4,h5,he])
 ·have:=hs j z7 he;right;rw[h4];exact⟨hp.1,hp.2,this⟩
end Go.Proofs.YtbmopacdflgfjaaGreatDoor
namespace Go.Proofs.YtbmopacdflgfjaaGreatDoor
open Go Go.RowKit Go.Proofs.Tryz
theorem nA (w:World):(zeroValue 60).run prog w= .ok (.agg #[.int .i64 0,.int .i64 0,.string ⟨#[]⟩,.slice none 0 0]) w:=by kernel_rfl
theorem kD:(prog.info? 60).map (·.size)=some 4:=by kernel_rfl
def vW (l:List RG) (k:Nat):Nat→Int:=fun j=>((cnt (sV l) k (j+1):Nat):Int)
theorem TW {l:List RG} {k v:Nat} (hv:pick l (k:Int)=(v:Int)) (h1:1≤v) (j:Nat):vW l (k+1) j=if j=v-1 then vW l k j+1 else vW l k j:=by
 unfold vW;simp only[cnt,sV,hv,Int.toNat_natCast];by_cases h:j=v-1
 ·rw[if_pos h,if_pos z7];simp
 ·rw[if_neg h,if_neg z7];simp
theorem aax (l:List RG) (k j:Nat):0≤vW l k j∧vW l k j≤k:=by have:=JB (f:=sV l) (v:=j+1) (N:=k);unfold vW;omega
theorem VP:(prog.info? 3).map (fun i=>(i.zero,i.size,i.bytes))=some (some (.int .i64 0),1,8):=by kernel_rfl
theorem info3 {o:Option TypeInfo} {z:Option Value} {a b:Nat} (h:o.map (fun i=>(i.zero,i.size,i.bytes))=some (z,a,b)):∃i,o=some i∧i.zero=z∧i.size=a∧i.bytes=b:=by
 cases o with
 |none=>cases h
 |some i=>simp only[Option.map_some,Option.some.injEq,Prod.mk.injEq] at h;exact⟨i,rfl,h.1,h.2.1,h.2.2⟩
theorem RZ (z:Value) {n i:Nat} (h:i<n):(madeCells #[z] n)[i]? =some z:=by unfold madeCells;simp[h,Nat.mod_one]
theorem Hd (n:Nat) (hn:n≤100000) (w:World):
   (Instr.makeSlice 47 (.int .i64 (n:Int)) (.int .i64 (n:Int))).run prog w= .ok (.slice (some ⟨w.heap.size,0,none⟩) n n) (w.alloc (.cells (madeCells #[.int .i64 0] n) 3))∧
   Ar (w.alloc (.cells (madeCells #[.int .i64 0] n) 3)) w.heap.size 3 n (fun _=>0):=by obtain⟨i,hi,hz,hs,hb⟩:=info3 VP;refine⟨?_,⟨_,ah.new _ _ _,by simp[madeCells],fun j hj=>RZ _ hj⟩⟩;exact z7s
theorem ai0 (cs:Array Value) (k:Nat) (x:Int) (hk:k<10000) (hx:cs[k]? =some (.int .i64 x)) (w:World):(Instr.index 98 (.agg cs) (.int .i64 (k:Int))).run prog w= .ok (.int .i64 x) w:=by have hn:(0:Int)≤(k:Int)∧(k:Int)<10000:=z7;simp[Instr.index,run_underlying underlying98,asIntOf,hn,go_sem,part,hx];intro h;omega
theorem X5 (n:Nat) (h1:1≤n) (hn:n≤8) (l:List RG) (hV:VS n l) (av:Nat→Prop) (v:Value) (w:World) (hv:Ls 3 oL w av v l):
   Calls prog 26 #[v,.int .i64 (n:Int)] w fun e w'=>∃g,e= .returned (.slice (some ⟨g,0,none⟩) n n)∧w.heap.size≤g∧Ar w' g 3 n (vW l 10000)∧Below w.heap.size w w':=by
 have HV:=aa hv;clear hv;go_enter func26,ntmps26;obtain⟨pQ,Gq⟩:=Hd n z7 w;have nH:=(Below.refl w.heap.size w).alloc ae (.cells (madeCells #[.int .i64 0] n) 3);generalize w.alloc (.cells (madeCells #[.int .i64 0] n) 3)=w1 at pQ Gq nH;go_wp2_with fail;refine(SV n l hV av v w1 ((HV.out).below aT (dU aj ae nH))).mono ?_;rintro e w2 ⟨cs,rfl,hcs,lG,bQ⟩;have vF:=Gq.below' bQ;have oP:=bt nH bQ;clear pQ Gq nH bQ;have HT:=aa lG;clear lG;go_wp2_with fail;go_loopw [14] (fun x wr=>∃k:Nat,x= .int .i64 (k:Int)∧k≤10000∧Ar wr w.heap.size 3 n (vW l k)∧Below w.heap.size w wr) (fun x _=>10000-(intOf x).toNat);case atStart=>exact⟨0,rfl,z7,vF.same fun i _=>by simp[vW,cnt],oP⟩
 case round=>
  obtain⟨k,rfl,hk,hA,hB⟩:=hrel;by_cases hlt:k<10000
  ·have hp:=hV.Di (b:=(k:Int)) z7 z7;have E5:=HT.out k hlt;exact zbY (zt 1)
  ·exact z82
theorem abD (av:Nat→Prop) (gk:Nat) (kind:List UInt8) (x:CX) (cs:List Value) (w:World) (hk:w.cell? ⟨gk,0,none⟩=some (sv kind)) (hR:qC w av cs x):
   Calls prog 209 #[.agg cs.toArray,.pointer (some ⟨gk,0,none⟩)] w fun e w'=>e= .returned (.bool (x.kind==kind))∧Below w.heap.size w w':=by obtain⟨lv,rfl,-,_⟩:=hR;simp only[sv] at hk⊢;have hb:=(Below.refl w.heap.size w).alloc ae (.cells #[.string ⟨x.kind.toArray⟩,.string ⟨x.key.toArray⟩,lv] 74);have hlt:=World.block_lt_of_cell? w _ hk;go_enter func209,ntmps209;exact z8t
theorem AA:(prog.info? 9).map (fun i=>(i.zero,i.size,i.bytes))=some (some (.string ⟨#[]⟩),1,16):=by kernel_rfl
theorem vM (l:List (List UInt8)):(l.map fun x=>[sv x]).flatten=l.map sv:=by
 induction l with
 |nil=>rfl
 |cons a l ih=>exact z8W
theorem Ls.texts {w:World} {av:Nat→Prop} {v:Value} {l:List (List UInt8)} (h:fH w av v l):Sl w av 1 v l.length (l.map sv)∧∀x∈l,Tl x:=by
 obtain⟨h0,cs,h1,h2,h3,h4⟩:=h;have e:cs.flatten=l.map sv:=by have e2:cs=l.map fun x=>[sv x]:=z6Q;rw[e2,vM]
 rw[e] at h3;exact z7k
theorem Ls.F7 {w:World} {av:Nat→Prop} {base:Nat} {v:Value} {l:List (List UInt8)} (h:w.ownsRow base 9 1 v l.length (l.map sv)) (ha:∀k,base≤k→av k) (h0:l.length≤1000000) (ht:∀x∈l,Tl x):fH w av v l:=by
 have e:l.map sv=(l.map fun x=>[sv x]).flatten:=(vM l).symm;rw[e] at h;refine Ls.yI h rfl h0 zd (fun c hc=>?_) (fun k hk _ _=>ha k hk) (fun k c x hc hx=>?_)
 ·exact z7N
 ·exact z7h
theorem YI {l:List (List UInt8)}:∀u∈l.map sv,u.oneCell'=true:=by intro u hu;obtain⟨r,_,rfl⟩:=List.mem_map.1 hu;rfl
theorem abx (w:World):(w.alloc (.cells #[] 9)).ownsRow w.heap.size 9 1 (.slice (some ⟨w.heap.size,0,none⟩) 0 0) 0 []:=World.ownsRow_lit w #[] 0 ae zX rfl
theorem Kw (w:World) (a:Option Addr) (n c:Nat):(binOp .eql 58 (.slice a n c) (.slice none 0 0)).run prog w= .ok (.bool a.isNone) w:=Lib.run_eql_slice_nil w _ 9 a n c 0 0 underlying58
theorem ab4 (av:Nat→Prop) (x:Value) (l:List (List UInt8)) (w:World) (hx:fH w av x l):
   Calls prog 85 #[x] w fun e w'=>∃v,e= .returned v∧fH w' (w.heap.size≤·) v l∧Below w.heap.size w w':=zc3 (zt 1)
theorem call209 (xs:Array Value) (W:World):(callFunc 209 xs).run prog W= .ok (.enter 209 xs) W:=Tryz.call209 xs W
theorem Tf (av:Nat→Prop) (v:Value) (kind:List UInt8) (l:List CX) (w:World) (hv:Ls 3 qC w av v l):
   Calls prog 155 #[.agg #[v],.string ⟨kind.toArray⟩] w fun e w'=>e= .returned (.int .i64 (vz (fun x=>x.kind==kind) l))∧Below w.heap.size w w':=by
 have hb:=((Below.refl w.heap.size w).alloc ae (.cells #[v] 54)).alloc zd (.cells #[.string ⟨kind.toArray⟩] 9);have hk:=(ah.new (w.alloc (.cells #[v] 54)) 9 #[.string ⟨kind.toArray⟩]);have HV:=aa (hv.below bG hb);clear hv
 have HA:Hid (vJ prog ((w.alloc (.cells #[v] 54)).alloc (.cells #[.string ⟨kind.toArray⟩] 9)) av qC 209 #[.pointer (some ⟨w.heap.size+1,0,none⟩)] (fun x=>x.kind==kind) l):=aa fun W cs x hW _ hR=>abD av (w.heap.size+1) kind x cs W (by
   have:=(hk.below' hW).cell 0
   simpa [sv] using this) hR
 have HB:=aa hb;clear hb hk;go_enter func155,ntmps155;go_wp2_with(refine(anp av v l _ #[.pointer (some ⟨w.heap.size+1,0,none⟩)] (fun x=>x.kind==kind) _ HV.out HA.out call209).mono ?_;rintro e1 w1 ⟨rfl,dJ⟩);go_ret;exact⟨rfl,bt HB.out dJ⟩
theorem Kc {α:Type} (p:α→Bool):∀l:List α,(∃k:Nat,∃hk:k<l.length,vz p l=(k:Int)∧l.find? p=some (l[k]'hk))∨(vz p l=-1∧l.find? p=none):=by
 intro l;unfold vz;cases h:l.findIdx? p with
 |none=>right;rw[List.findIdx?_eq_none_iff] at h;exact⟨rfl,List.find?_eq_none.2 fun x hx=>by simpa using h x hx⟩
 |some i=>left;obtain⟨h1,h2,h3⟩:=List.findIdx?_eq_some_iff_getElem.1 h;refine⟨i,h1,rfl,?_⟩;rw[List.find?_eq_some_iff_getElem];exact⟨h2,i,h1,rfl,fun j hj=>by simpa using h3 j hj⟩
theorem FK (av:Nat→Prop) (cs:List Value) (x:VA) (w:World) (hv:gG w av cs x):
   Calls prog 54 #[.agg cs.toArray] w fun e w'=>∃cs',e= .returned (.agg cs'.toArray)∧gG w' (w.heap.size≤·) cs' x∧Below w.heap.size w w':=by
 obtain⟨lv,rfl,hl,hb⟩:=hv;go_enter func54,ntmps54;simp only[iv,sv];have fT:=(ah.new w 60 #[.int .i64 x.kind,.int .i64 x.num,.string ⟨x.text.toArray⟩,lv]).alloc (.cells #[.int .i64 0,.int .i64 0,.string ⟨#[]⟩,.slice none 0 0] 60);have bT:=ah.new (w.alloc (.cells #[.int .i64 x.kind,.int .i64 x.num,.string ⟨x.text.toArray⟩,lv] 60)) 60 #[.int .i64 0,.int .i64 0,.string ⟨#[]⟩,.slice none 0 0];rw[show (w.alloc (.cells #[.int .i64 x.kind,.int .i64 x.num,.string ⟨x.text.toArray⟩,lv] 60)).heap.size=w.heap.size+1 from zd] at bT;have hB:=((Below.refl w.heap.size w).alloc ae (.cells #[.int .i64 x.kind,.int .i64 x.num,.string ⟨x.text.toArray⟩,lv] 60)).alloc zd (.cells #[.int .i64 0,.int .i64 0,.string ⟨#[]⟩,.slice none 0 0] 60);have HL:=aa (hl.below ax hB);have hsz:((w.alloc (.cells #[.int .i64 x.kind,.int .i64 x.num,.string ⟨x.text.toArray⟩,lv] 60)).alloc (.cells #[.int .i64 0,.int .i64 0,.string ⟨#[]⟩,.slice none 0 0] 60)).heap.size=w.heap.size+2:=zd;have HH:=ag fT (ai bT (ai hB hsz));clear fT bT hB hsz hl;go_wp2_with fail;refine(ab4 av lv x.list _ HL.out).mono ?_;rintro e1 w1 ⟨v1,rfl,nG,dJ⟩;obtain⟨h1,h2,hB,hsz⟩:=HH.out;rw[hsz] at nG;obtain⟨A1,n1,mJ,_,_⟩:=nG.open_;generalize iH:x.list.length=ajM at mJ;subst mJ;have k1:=h1.below' dJ;have k2:=h2.below' dJ;have fZ:=bt hB dJ;clear HH HL h1 h2 hB hsz dJ;have hlt:=k2.lt;have c0:=k1.cell 0;have c1:=k1.cell 1;have c2:=k1.cell 2;have f3:=k1.frozen 3;have f4:=k2.frozen 0;have f5:=k2.frozen 1;have f6:=k2.frozen 2;have f7:=k2.frozen 3;have c3:=k1.cell 3;have d0:=k2.cell 0;have d1:=k2.cell 1;have d2:=k2.cell 2;have d3:=k2.cell 3;simp only[List.getElem?_toArray,List.getElem?_cons_zero,List.getElem?_cons_succ] at c0 c1 c2 c3 d0 d1 d2 d3;have jF:=(k2.far (p:=⟨w.heap.size,3,none⟩) zd (.slice A1 ajM n1)).Vq (.int .i64 x.kind) (.int .i64 x.num) (.string ⟨x.text.toArray⟩) (.slice A1 ajM n1);have HK:=ag jF (ai nG fZ);clear jF nG fZ k1 k2;go_wp2_with fail;refine bodyPost_ret (results_cell_row rfl _ _ (w.heap.size+1) 60 _ (0,0) _ rfl HK.1 underlying60 rfl AZ) rfl ?_;obtain⟨jF,nG,fZ⟩:=HK.out;refine⟨[_,_,_,_],rfl,⟨_,rfl,?_,hb⟩,?_⟩
 ·refine Ls.weaken ax z7 (av:=fun k=>w.heap.size+2≤k) ?_ (fun k hk _=>z7);refine nG.keep ax fun k hk _=>?_;rw[Below.heap_setCell _ _ _ _ z1e,Below.heap_setCell _ _ _ _ z1e,Below.heap_setCell _ _ _ _ z1e,Below.heap_setCell _ _ _ _ z1e,Below.heap_setCell _ _ _ _ (by show k≠w.heap.size;omega)]
 ·exact((((fZ.setCell ae _).setCell zk _).setCell zk _).setCell zk _).setCell zk _
theorem FI (op:Int) (w:World):Calls prog 103 #[.int .i64 op] w fun e w'=>e= .returned (.bool (decide (6≤op∧op≤15)))∧w'=w:=by
 by_cases h1:6≤op<;>by_cases h2:op≤15
 all_goals
   go_enter func103,ntmps103
   go_wp2_with fail
   go_ret
   refine⟨?_,rfl⟩
   simp[h1,h2]
theorem Vg (op:Int) (w:World):Calls prog 177 #[.int .i64 op] w fun e w'=>e= .returned (.bool (decide (6≤op∧op≤15)))∧w'=w:=by
 by_cases h1:6≤op<;>by_cases h2:op≤15
 all_goals
   go_enter func177,ntmps177
   go_wp2_with fail
   go_ret
   refine⟨?_,rfl⟩
   simp[h1,h2]
theorem afw (av:Nat→Prop) (v:Value) (l:List (List UInt8)) (x:List UInt8) (w:World) (hv:fH w av v l):
   Calls prog 102 #[v,.string ⟨x.toArray⟩] w fun e w'=>(∃b,e= .returned (.bool b))∧w'=w:=by
 obtain⟨A,c,rfl,dx,dC⟩:=hv.open_;have HV:=aa hv;clear hv;go_enter func102,ntmps102;go_wp2_with fail;go_loopw [5] (fun i wr=>∃k:Nat,i= .int .i64 (k:Int)∧k≤l.length∧wr=w) (fun i _=>l.length-(intOf i).toNat);case atStart=>exact⟨0,rfl,z7,rfl⟩
 case round=>
  obtain⟨k,rfl,hk,rfl⟩:=hrel;by_cases hlt:k<l.length
  ·obtain⟨ad,cs,rfl,aY,aI,⟨hcs,_⟩,hcell⟩:=HV.at_ hlt;subst hcs;have e0:=cell0 hcell rfl;simp only[sv,Nat.mul_one] at e0;clear hcell;generalize l[k]'hlt=y at e0;cases hq:(y==x) with
   |true=>go_wp2_with fail;go_ret;exact⟨⟨true,rfl⟩,rfl⟩
   |false=>exact z7H
  ·exact zcK (zt 6)
theorem Iz (av:Nat→Prop) (cs:List Value) (v:EN) (key:List UInt8) (w:World) (hv:lS w av cs v):
   Calls prog 62 #[.agg cs.toArray,.string ⟨key.toArray⟩] w fun e w'=>(e= .returned (.int .i64 (-1))∨∃k:Nat,k<v.layers.length∧e= .returned (.int .i64 (k:Int)))∧Below w.heap.size w w':=by
 obtain⟨ca,wP,cf,cl,cx,rfl,ha,hs,hf,hl,hx,ht⟩:=hv;have HE:=aa hl;obtain⟨A,c,hq,dx,dC⟩:=(hl).open_;generalize hn:v.layers.length=n at hq;subst hq;simp only[iv,sv];have hb:=(Below.refl w.heap.size w).alloc ae (.cells #[.string ⟨v.aN.toArray⟩,.string ⟨v.eQ.toArray⟩,.int .i64 v.hold,ca,wP,cf,.slice A n c,cx] 32);have hk:=ah.new w 32 #[.string ⟨v.aN.toArray⟩,.string ⟨v.eQ.toArray⟩,.int .i64 v.hold,ca,wP,cf,.slice A n c,cx];clear ha hs hf hl hx;go_enter func62,ntmps62;go_wp2_with fail;go_loopw [5] (fun i wr=>∃k:Nat,i= .int .i64 (k:Int)∧k≤n∧ah wr w.heap.size 32 #[.string ⟨v.aN.toArray⟩,.string ⟨v.eQ.toArray⟩,.int .i64 v.hold,ca,wP,cf,.slice A n c,cx]∧Below w.heap.size w wr) (fun i _=>n-(intOf i).toNat);case atStart=>exact⟨0,rfl,z7,hk,hb⟩
 case round=>
  clear hk hb;obtain⟨k,rfl,EY,hk,hB⟩:=hrel;have HK:=ag hk hB;have c5:=hk.cell 6;simp only[List.getElem?_toArray,List.getElem?_cons_zero,List.getElem?_cons_succ] at c5;by_cases hlt:k<n
  ·obtain⟨ad,il,rfl,aY,aI,hR,hcell⟩:=(HE.below iw hB).at_ (show k<v.layers.length from z7);have e0:∃s:List UInt8,wr.cell? (ad.add (k*6))=some (.string ⟨s.toArray⟩):=by obtain⟨_,rfl,-⟩:=hR;exact⟨_,cell0 hcell rfl⟩
   exact z6U
  ·exact z8a
theorem Q4 (av:Nat→Prop) (cs:List Value) (v:EN) (key:List UInt8) (w:World) (hv:lS w av cs v):
   Calls prog 108 #[.agg cs.toArray,.string ⟨key.toArray⟩] w fun e w'=>(e= .returned (.int .i64 (-1))∨∃k:Nat,k<v.flags.length∧e= .returned (.int .i64 (k:Int)))∧Below w.heap.size w w':=by
 obtain⟨ca,wP,cf,cl,cx,rfl,ha,hs,hf,hl,hx,ht⟩:=hv;have HE:=aa hf;obtain⟨A,c,hq,dx,dC⟩:=(hf).open_;generalize hn:v.flags.length=n at hq;subst hq;simp only[iv,sv];have hb:=(Below.refl w.heap.size w).alloc ae (.cells #[.string ⟨v.aN.toArray⟩,.string ⟨v.eQ.toArray⟩,.int .i64 v.hold,ca,wP,.slice A n c,cl,cx] 32);have hk:=ah.new w 32 #[.string ⟨v.aN.toArray⟩,.string ⟨v.eQ.toArray⟩,.int .i64 v.hold,ca,wP,.slice A n c,cl,cx];clear ha hs hf hl hx;go_enter func108,ntmps108;go_wp2_with fail;go_loopw [5] (fun i wr=>∃k:Nat,i= .int .i64 (k:Int)∧k≤n∧ah wr w.heap.size 32 #[.string ⟨v.aN.toArray⟩,.string ⟨v.eQ.toArray⟩,.int .i64 v.hold,ca,wP,.slice A n c,cl,cx]∧Below w.heap.size w wr) (fun i _=>n-(intOf i).toNat);case atStart=>exact⟨0,rfl,z7,hk,hb⟩
 case round=>
  clear hk hb;obtain⟨k,rfl,EY,hk,hB⟩:=hrel;have HK:=ag hk hB;have c5:=hk.cell 5;simp only[List.getElem?_toArray,List.getElem?_cons_zero,List.getElem?_cons_succ] at c5;by_cases hlt:k<n
  ·obtain⟨ad,il,rfl,aY,aI,hR,hcell⟩:=(HE.below dF hB).at_ (show k<v.flags.length from z7);have e0:∃s:List UInt8,wr.cell? (ad.add (k*13))=some (.string ⟨s.toArray⟩):=by obtain⟨_,_,_,_,_,rfl,-⟩:=hR;exact⟨_,cell0 hcell rfl⟩
   exact z6U
  ·exact z8a
theorem aei (av:Nat→Prop) (gk:Nat) (key:List UInt8) (x:FL) (cs:List Value) (w:World) (hk:w.cell? ⟨gk,0,none⟩=some (sv key)) (hR:ku w av cs x):
   Calls prog 52 #[.agg cs.toArray,.pointer (some ⟨gk,0,none⟩)] w fun e w'=>e= .returned (.bool (x.key==key))∧Below w.heap.size w w':=by obtain⟨vv,nv,tv,rv,il,rfl,-,-,-,-,⟨sp,rfl,-,-⟩,-⟩:=hR;simp only[sv,iv,List.cons_append,List.nil_append] at hk⊢;have hb:=(Below.refl w.heap.size w).alloc ae (.cells #[.string ⟨x.key.toArray⟩,.int .i64 x.kind,vv,.bool x.mI,.int .i64 x.off,nv,tv,rv,.int .i64 x.dflt.var,.string ⟨x.dflt.kind.toArray⟩,.string ⟨x.dflt.iq.toArray⟩,.string ⟨x.dflt.aN.toArray⟩,sp] 46);have hlt:=World.block_lt_of_cell? w _ hk;go_enter func52,ntmps52;exact z8t
theorem abz (av:Nat→Prop) (gk:Nat) (key:List UInt8) (x:LY) (cs:List Value) (w:World) (hk:w.cell? ⟨gk,0,none⟩=some (sv key)) (hR:wB w av cs x):
   Calls prog 118 #[.agg cs.toArray,.pointer (some ⟨gk,0,none⟩)] w fun e w'=>e= .returned (.bool (x.key==key))∧Below w.heap.size w w':=by obtain⟨cv,rfl,-,-⟩:=hR;simp only[sv,iv] at hk⊢;have hb:=(Below.refl w.heap.size w).alloc ae (.cells #[.string ⟨x.key.toArray⟩,.string ⟨x.kind.toArray⟩,.string ⟨x.aN.toArray⟩,.int .i64 x.hold,.int .i64 x.ED,cv] 85);have hlt:=World.block_lt_of_cell? w _ hk;go_enter func118,ntmps118;exact z8t
theorem ac1 {l:List RG} {b:Int} (h:∀j (hj:j<l.length),¬((l[j]'hj).lo≤b∧b<(l[j]'hj).hi)):pick l b=0:=by
 have:=qR l [] b (fun r hr=>by
   obtain⟨j,hj,e⟩:=List.getElem_of_mem hr
   rw[←e];exact h j hj)
 rw[List.append_nil] at this;exact this
theorem afz {l:List RG} {b:Int} {k:Nat} (hk:k<l.length) (h:∀j (hj:j<k),¬((l[j]'z7).lo≤b∧b<(l[j]'z7).hi)) (hp:(l[k]'hk).lo≤b∧b<(l[k]'hk).hi):pick l b=(l[k]'hk).var:=by
 have e:l=l.take k++(l[k]'hk)::l.drop (k+1):=by rw[←List.drop_eq_getElem_cons hk,List.take_append_drop]
 have e2:pick l b=pick (l.take k++(l[k]'hk)::l.drop (k+1)) b:=congrArg (fun m=>pick m b) e;rw[e2,qR]
 ·show(if(l[k]'hk).lo≤b∧b<(l[k]'hk).hi then(l[k]'hk).var else _)=_;rw[if_pos hp]
 ·intro x hx;obtain⟨j,hj,Ty⟩:=List.getElem_of_mem hx;rw[List.length_take] at hj;rw[←Ty,List.getElem_take];exact h j z7
theorem O5 (av:Nat→Prop) (v:Value) (l:List RG) (b:Int) (w:World) (hv:Ls 3 oL w av v l):
   Calls prog 126 #[v,.int .i64 b] w fun e w'=>e= .returned (.int .i64 (pick l b))∧Below w.heap.size w w':=by
 obtain⟨A,c,rfl,dx,dC⟩:=hv.open_;have HV:=aa hv;clear hv;go_enter func126,ntmps126;go_wp2_with fail;go_loopw [9] (fun x wr=>∃k:Nat,x= .int .i64 (k:Int)∧∃hk:k≤l.length,(∀j (hj:j<k),¬((l[j]'z7).lo≤b∧b<(l[j]'z7).hi))∧Below w.heap.size w wr) (fun x _=>l.length-(intOf x).toNat);case atStart=>exact z6C
 case round=>
  obtain⟨k,rfl,hk,hn,hB⟩:=hrel;have HN:=aa hn;have HB:=aa hB;clear hn;by_cases hlt:k<l.length
  ·obtain⟨ad,cs,rfl,aY,aI,⟨hcs,_⟩,hcell⟩:=(HV.below aT hB).at_ hlt;subst hcs;obtain⟨e0,e1,e2⟩:=cells3 hcell;simp only[iv] at e0 e1 e2;clear hcell hB;have HM:=aa (fun hp=>afz (b:=b) hlt HN.out hp)
   have HF:=aa (fun(hp:¬((l[k]'hlt).lo≤b∧b<(l[k]'hlt).hi))=>fun j (hj:j<k+1)=>show ¬((l[j]'z7).lo≤b∧b<(l[j]'z7).hi) from by
     by_cases iQ:j=k
     · subst iQ;exact hp
     · exact HN.out j z7)
   generalize l[k]'hlt=r at e0 e1 e2 HM HF;by_cases h1:r.lo≤b
   ·by_cases h2:b<r.hi
    ·have ic:=HM.out ⟨h1,h2⟩;go_wp2_with fail;go_ret;exact⟨rfl,HB.alloc HB.size _⟩
    ·have HX:=aa (HF.out (fun h=>h2 h.2));exact z7w
   ·have HX:=aa (HF.out (fun h=>h1 h.1));exact z7w
  ·obtain rfl:k=l.length:=z7;have ic:=ac1 HN.out;go_wp2_with fail;go_ret;exact⟨rfl,hB⟩
end Go.Proofs.YtbmopacdflgfjaaGreatDoor
namespace Go.Proofs.YtbmopacdflgfjaaGreatDoor
def tC (l:List FL) (opn:List (List UInt8)):Nat:=(l.filter fun f=>decide (f.key∉opn)).length
theorem Pz {l:List FL} {o o2:List (List UInt8)} (h:∀k,k∈o→k∈o2):tC l o2≤tC l o:=by
 induction l with
 |nil=>exact Nat.le_refl _
 |cons a l ih=>
  unfold tC at ih⊢;simp only[List.filter_cons];by_cases h2:a.key∈o2
  ·have e2:decide (a.key∉o2)=false:=z56;rw[e2];simp only[Bool.false_eq_true,if_false];split
   ·simp only[List.length_cons];omega
   ·exact ih
  ·have e1:decide (a.key∉o)=true:=by simpa using fun h3=>h2 (h a.key h3)
   have e2:decide (a.key∉o2)=true:=z56;exact z8P
theorem Yq {l:List FL} {o o2:List (List UInt8)} (h:∀k,k∈o ↔ k∈o2):tC l o=tC l o2:=
 Nat.le_antisymm (Pz fun k hk=>(h k).2 hk) (Pz fun k hk=>(h k).1 hk)
theorem QY {l:List FL} {o:List (List UInt8)} {f:FL} (hf:f∈l) (ho:f.key∉o):tC l (f.key::o)+1≤tC l o:=by
 induction l with
 |nil=>simp at hf
 |cons a l ih=>
  by_cases ha:a.key=f.key
  ·have h1:tC l (f.key::o)≤tC l o:=Pz fun k hk=>List.mem_cons_of_mem _ hk;unfold tC at h1⊢;simp only[List.filter_cons];have e1:decide (a.key∉f.key::o)=false:=by simp[ha]
   have e2:decide (a.key∉o)=true:=by simpa [ha] using ho
   rw[e1,e2];simp only[Bool.false_eq_true,if_false,if_true,List.length_cons];omega
  ·have nW:f∈l:=by
    rcases List.mem_cons.1 hf with h|h
    ·exact absurd (by rw[h]) ha
    ·exact h
   have h1:=ih nW;unfold tC at h1⊢;simp only[List.filter_cons];by_cases h2:a.key∈o
   ·have e1:decide (a.key∉f.key::o)=false:=by simp[h2]
    have e2:decide (a.key∉o)=false:=z56;rw[e1,e2];simp only[Bool.false_eq_true,if_false];exact h1
   ·have e1:decide (a.key∉f.key::o)=true:=by simp[ha,h2]
    have e2:decide (a.key∉o)=true:=z56;exact z8P
theorem aeh (l:List FL):tC l []=l.length:=by unfold tC;simp
def Io (a b:ST):Prop:=∀k,k∈a.opn ↔ k∈b.opn
section
variable {O:OR}
theorem S9 (n:Nat) (hd:∀st g,g.key∉st.opn→Io (dD O n st g).2 st):∀(l:List PQ) (st:ST),Io (eP O n st l).2 st
 | [],st=>by rw[eP];exact fun _=>Iff.rfl
 | p::l,st=>by
  rw[eP];cases hq:O.flag p.flag with
  |none=>exact fun _=>Iff.rfl
  |some g=>
   simp only;by_cases hc:g.mI=false∨g.key∈st.opn
   ·simp only[if_pos hc];exact fun _=>Iff.rfl
   ·simp only[if_neg hc];have h1:=hd st g (fun h=>hc (.inr h));by_cases hv:(dD O n st g).1.var=p.var
    ·simp only[if_pos hv];intro k;exact(S9 n hd l _ k).trans (h1 k)
    ·simp only[if_neg hv];exact h1
theorem ab8 (n:Nat) (hd:∀st g,g.key∉st.opn→Io (dD O n st g).2 st) (g:FL) (st:ST):Io (iB O n st g).2 st:=by
 rw[iB];by_cases vD:g.mI=false
 ·simp only[if_pos vD];exact fun _=>Iff.rfl
 ·simp only[if_neg vD];have h1:=S9 n hd g.needs st;cases hm:(eP O n st g.needs).1 with
  |none=>exact h1
  |some p=>exact h1
theorem Rb:∀(n:Nat) (st:ST) (g:FL),g.key∉st.opn→Io (dD O n st g).2 st
 | 0,st,g,_=>by rw[dD];exact fun _=>Iff.rfl
 | n+1,st,g,ho=>by
  rw[dD];cases hl:st.done.lookup g.key with
  |some d=>exact fun _=>Iff.rfl
  |none=>
   have h1:=ab8 n (Rb n) g ⟨st.done,g.key::st.opn⟩;intro k;simp only[List.mem_filter,decide_eq_true_eq,ne_eq];have h2:=h1 k;simp only[List.mem_cons] at h2;rw[h2];constructor
   ·rintro⟨h3|h3,h4⟩
    ·exact absurd h3 h4
    ·exact h3
   ·intro h3;exact⟨.inr h3,fun e=>ho (e▸h3)⟩
end
theorem abu {O:OR} {n:Nat} {st:ST} {p:PQ} {l:List PQ} (h:O.flag p.flag=none):eP O n st (p::l)=(some p,st):=by rw[eP,h]
theorem Ta {O:OR} {n:Nat} {st:ST} {p:PQ} {l:List PQ} {g:FL} (h:O.flag p.flag=some g) (hc:g.mI=false∨g.key∈st.opn):eP O n st (p::l)=(some p,st):=by rw[eP,h];simp only[if_pos hc]
theorem afK {O:OR} {n:Nat} {st:ST} {p:PQ} {l:List PQ} {g:FL} (h:O.flag p.flag=some g) (hc:¬(g.mI=false∨g.key∈st.opn)) (hv:(dD O n st g).1.var=p.var):eP O n st (p::l)=eP O n (dD O n st g).2 l:=by rw[eP,h];simp only[if_neg hc,if_pos hv]
theorem abt {O:OR} {n:Nat} {st:ST} {p:PQ} {l:List PQ} {g:FL} (h:O.flag p.flag=some g) (hc:¬(g.mI=false∨g.key∈st.opn)) (hv:¬(dD O n st g).1.var=p.var):eP O n st (p::l)=(some p,(dD O n st g).2):=by rw[eP,h];simp only[if_neg hc,if_neg hv]
end Go.Proofs.YtbmopacdflgfjaaGreatDoor
