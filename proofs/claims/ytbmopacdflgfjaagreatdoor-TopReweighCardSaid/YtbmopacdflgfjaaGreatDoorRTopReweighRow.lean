/- TopReweigh: a flag whose default split gets new weights serves a user another variation only where the split's weight fell: the law returns true and leaves its arguments as they were. No condition: for every input that can be read. -/
import Derived.Test.YtbmopacdflgfjaaGreatDoorRows
import Derived.Test.YtbmopacdflgfjaaGreatDoorM48
import Derived.Test.YtbmopacdflgfjaaGreatDoorM04
import Derived.Test.YtbmopacdflgfjaaGreatDoorM21
import Derived.Test.YtbmopacdflgfjaaGreatDoorM06
import Derived.Lay
import Derived.LaidOnce
import Derived.Test.YtbmopacdflgfjaaGreatDoorCards
import Derived.Test.YtbmopacdflgfjaaGreatDoorTie
import Derived.SevenTiedAt
namespace Go.Proofs.YtbmopacdflgfjaaGreatDoor.topReweigh
open Go Go.ChangeShapes Go.WideShapes Go.ChangeAt Go.RowKit
open Go.ChangeMaps (open_string shut_string)
variable {H : Type} {enc : TypeId × Value → H}
theorem wrap {a:Assume} {C:Checked} {os:Go.Os} {f:FuncId} {fn:Func} {s:ChangeSpec} {conds:List PathCond} {apart fresh handsOn again:Bool} {X:World→Array Value→Prop}
  (hX:∀(w w':World) (args:Array Value),w.heap=w'.heap→X w args→X w' args)
  (own:ownKnob C.prog.godebug=none) (started:os.Started) (noInit:C.prog.inits.idxOf? f=none) (MB:C.prog.funcs[f]? =some fn)
  (witness:∃(w:World) (tape:Tape) (i:Input),w.os=os∧(w.forCall tape i).Shaped C.prog∧i.vars=[]∧Input.okWide C.prog (w.forCall tape i) .any w.heap.size f i∧
   ((s.pre enc C.prog fn conds apart (w.forCall tape i).memory i.args∧X (w.forCall tape i).memory i.args)∧sizedMet enc C.prog fn (OpenSpec.ofChange s) apart (w.forCall tape i).memory i.args)∧a.holds C.prog (lone (Frame.enter C.prog f i.args .normal) [] (w.forCall tape i)))
  (contract:∀(W:World) (base:Nat) (args:Array Value) (ds gs:List (DataW H)) (before:List MemPlace),
   (∀(j:Nat) t v,fn.params[j]? =some t→args[j]? =some v→Value.okWide C.prog W .any base t v)→
   DataW.Whole enc C.prog fn.params.toList s.vars apart W args.toList ds gs before→
   X W args→W.ShapedOpen C.prog→
   a.holds C.prog (lone (Frame.enter C.prog f args .normal) [] W)→
   Calls C.prog f args W fun e W'=>∃v,e= .returned v∧s.post enc C.prog fn apart fresh handsOn again W args v W'):
  ReturnsInHanded a C os f .any (fun w args=>(s.pre enc C.prog fn conds apart w args∧X w args)∧sizedMet enc C.prog fn (OpenSpec.ofChange s) apart w args) (s.post enc C.prog fn apart fresh handsOn again):=by
 refine returnsInHanded_of_calls own started noInit witness ?_
 intro w tape i _ mR _ qU arj akV
 obtain⟨_,_,_,fn',arD,_,_,_,_,hval⟩:=qU
 have e:fn'=fn:=Option.some.inj (arD.symm.trans MB)
 subst e
 obtain⟨⟨⟨ds,gs,before,hw,hc⟩,hx⟩,hz⟩:=arj
 have hw':=DataW.Whole.of_heap (w':=w.forCall tape i) (by rfl) hw
 refine(contract (w.forCall tape i) w.heap.size i.args ds gs before hval hw' (hX _ _ _ (by rfl) hx) mR akV).mono fun e W' ⟨v,he,hp⟩=>?_
 subst he
 exact ChangeSpec.post_blind hp
theorem own:ownKnob Tryz.prog.godebug=none:=zh
theorem laidOut:laidOutB Tryz.prog=true:=zh
set_option maxRecDepth 100000 in
theorem lifted (os:Go.Os) (started:os.Started) (H:Type) (enc:TypeId × Value→H):
  ReturnsInHanded {} Tryz.checked os 3 .any (fun w args=>(Rows.topReweighSpec.pre enc Tryz.prog Tryz.f3 [] false w args∧laidMetH Tryz.prog xS w)∧sizedMet enc Tryz.prog Tryz.f3 (OpenSpec.ofChange Rows.topReweighSpec) false w args) (Rows.topReweighSpec.post enc Tryz.prog Tryz.f3 false true false false):=by
 refine wrap (C:=Tryz.checked) (X:=fun w _=>laidMetH Tryz.prog xS w) (fun _ _ _ hh h=>h.of_heap hh) own started zh Tryz.func3
  (ChangeSpec.witness_shaped (enc:=enc) (C:=Tryz.checked) (os:=os) (X:=fun w _=>laidMetH Tryz.prog xS w) false (World.laidAll Tryz.prog os xS) #[.slice none 0 0,.slice none 0 0,.int .i64 0,.slice none 0 0] 8 (World.laidAll_os _ _ _)
   (World.shaped_of_ZipB zh zh) zh zh zh
   (by rw[MakeChecks.laidMetH_plain _ _ _ zh];exact laidMet_laidAll _ zh zh)) ?_
 intro W base args ds gs before ag4 hW hL mR _
 have ht:=abW hL mR
 have hval:∀(j:Nat) t v,Tryz.f3.params[j]? =some t→args[j]? =some v→Value.okWide Tryz.prog W .any base t v:=ag4
 have hW':=hW
 obtain⟨p,q,hA0,hV,rfl,hfz,yK⟩:=hW
 have hA:DataW.TrodAll enc Tryz.prog W 0 (fun _=>true) true Tryz.f3.params.toList args.toList ds p:=hA0
 rw[Tryz.params3] at hA hval
 obtain⟨v0,vs0,d0,ds0,p0,q0,awl,rfl,rfl,h0,r0⟩:=trodAll_cons hA
 obtain⟨v1,vs1,d1,ds1,p1,q1,rfl,rfl,rfl,h1,r1⟩:=trodAll_cons r0
 obtain⟨v2,vs2,d2,ds2,p2,q2,rfl,rfl,rfl,h2,r2⟩:=trodAll_cons r1
 obtain⟨v3,vs3,d3,ds3,p3,q3,rfl,rfl,rfl,h3,r3⟩:=trodAll_cons r2
 obtain⟨rfl,rfl,rfl⟩:=trodAll_nil r3
 obtain rfl:args= #[v0,v1,v2,v3]:=by cases args;simp_all
 obtain⟨rfl,rfl⟩:=trodVars_none hV
 have k0:=h0
 have lt0:∀x∈p0,x.block<W.heap.size:=by obtain⟨m,hm⟩:=k0;exact DataW.trod_lt m _ _ _ hm
 have k1:=h1
 have lt1:∀x∈p1,x.block<W.heap.size:=by obtain⟨m,hm⟩:=k1;exact DataW.trod_lt m _ _ _ hm
 have k2:=h2
 have lt2:∀x∈p2,x.block<W.heap.size:=by obtain⟨m,hm⟩:=k2;exact DataW.trod_lt m _ _ _ hm
 have k3:=h3
 have lt3:∀x∈p3,x.block<W.heap.size:=by obtain⟨m,hm⟩:=k3;exact DataW.trod_lt m _ _ _ hm
 obtain⟨a0,w0⟩:=J5 Tryz.underlying22 Tryz.underlying5 zh (hval 0 22 v0 rfl rfl) h0
 obtain⟨a1,w1⟩:=J5 Tryz.underlying22 Tryz.underlying5 zh (hval 1 22 v1 rfl rfl) h1
 obtain⟨a2,rfl,_,_,w2⟩:=open_int Tryz.underlying3 (hval 2 3 v2 rfl rfl) h2
 obtain⟨a3,w3⟩:=J5 Tryz.underlying22 Tryz.underlying5 zh (hval 3 22 v3 rfl rfl) h3
 clear hA0 ag4
 refine(show Calls _ _ #[v0,v1,.int .i64 a2,v3] W (fun e W'=>e= .returned (.bool true)∧Below W.heap.size W W') from N.RH W.heap.size _ _ _ v0 v1 v3 a0 a1 a3 a2 W w0 w1 w3 (UF w2) ht).mono fun e W' ⟨he,bel⟩=>?_
 subst he
 exact⟨_,rfl,_,_,_,[],_,[],hW',trodAll_mk1 (shut_bool Tryz.underlying4 _),(trodAll_cons_mk (Below.trod laidOut zh (of_decide_eq_true zh) k0 bel lt0) (trodAll_cons_mk (Below.trod laidOut zh (of_decide_eq_true zh) k1 bel lt1) (trodAll_cons_mk (Below.trod laidOut zh (of_decide_eq_true zh) k2 bel lt2) (trodAll_cons_mk (Below.trod laidOut zh (of_decide_eq_true zh) k3 bel lt3) trodAll_mk0)))),rfl,bel.frame _,fun h=>by cases h⟩
theorem over:Rows.topReweighRow.holds Tryz.pinned (OpenSpec.ofChange Rows.topReweighSpec):=
 OpenClaim.holds_of_wide 3 Tryz.f3 rfl rfl rfl rfl rfl rfl rfl ⟨rfl,rfl,rfl,rfl,rfl⟩ rfl rfl rfl rfl rfl zh Tryz.func3 closed
  (of_decide_eq_true zh) (by unfold Func.isWrapper;first|(rw[if_pos (by decide+kernel)];kernel_rfl)|(rw[if_neg (by decide+kernel)];exact⟨rfl,rfl⟩))
  (fun os started H enc _=>lifted os started H enc)
theorem proved:Rows.TopReweighCardSaid:=
 Claim7.holds_tied_plain_at .later [] [.data,.data,.data,.data,.data,.data,.widerDeep,.sentinel,.sentinel,.pinned] true _ _
  over (fun _ h=>by cases h) zh (fun _ h=>by cases h) topReweigh_row_tie rfl ⟨rfl,rfl⟩ zh rfl
  (fun f fn hf MB=>by
   obtain rfl : f = 3 := Option.some.inj ((show Tryz.prog.funcNamed "flagstone/flagstonetop.TopReweigh" = some 3 by kernel_rfl).symm.trans hf) |>.symm
   obtain rfl:fn=Tryz.f3:=(Option.some.inj (Tryz.func3.symm.trans MB)).symm
   exact⟨by kernel_rfl,fun j t ht=>by
    rw[Tryz.params3] at ht
    have hm:=Array.mem_of_getElem? ht
    simp only[List.mem_toArray,List.mem_cons,List.not_mem_nil,or_false] at hm
    rcases hm with rfl|rfl|rfl|rfl
    all_goals (show Tryz.prog.wantsStandIn _=false;kernel_rfl)⟩)
  zh
#print axioms proved
end Go.Proofs.YtbmopacdflgfjaaGreatDoor.topReweigh
