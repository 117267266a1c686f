/- Steps of the proof. -/
import Derived.Test.YtbmopacdflgfjaaGreatDoorM01
import Derived.Test.YtbmopacdflgfjaaGreatDoorProg
import Derived.Test.YtbmopacdflgfjaaGreatDoorRows
set_option maxHeartbeats 40000000
set_option maxRecDepth 100000
namespace Go.Proofs.YtbmopacdflgfjaaGreatDoor
open Go Go.RowKit Go.Proofs.Tryz
def EE (a b:Int):Int:=IntKind.u64.wrap (a+b)
def iX (a b:Int):Int:=bits .xor .u64 a b
def sH (x:Int) (n:Nat):Int:=bits .or .u64 (IntKind.u64.wrap (x*(2^n:Nat))) (x/(2^(64-n):Nat))
def Xl (n:Nat):Prop:=n=13∨n=16∨n=17∨n=21∨n=32
theorem FQ (x:Int) (n:Nat) (hn:Xl n) (w:World):
   Calls prog 257 #[.int .u64 x,.int .i64 (n:Int)] w fun e w'=>e= .returned (.int .u64 (sH x n))∧w'=w:=by
 unfold sH;rcases hn with rfl|rfl|rfl|rfl|rfl
 all_goals
   have h1:bits .and .u64 13 63=13:=by decide
   have h2:bits .and .u64 16 63=16:=by decide
   have h3:bits .and .u64 17 63=17:=by decide
   have h4:bits .and .u64 21 63=21:=by decide
   have h5:bits .and .u64 32 63=32:=by decide
   go_enter func257,ntmps257
   go_wp2
   go_ret
   exact⟨rfl,rfl⟩
structure SS where
 a:Int
 b:Int
 c:Int
 d:Int
def afv (s:SS):SS:=
 let a1:=EE s.a s.b
 let b1:=iX (sH s.b 13) a1
 let a2:=sH a1 32
 let c1:=EE s.c s.d
 let d1:=iX (sH s.d 16) c1
 let a3:=EE a2 d1
 let d2:=iX (sH d1 21) a3
 let c2:=EE c1 b1
 let b2:=iX (sH b1 17) c2
 ⟨a3,b2,sH c2 32,d2⟩
def qK:Nat→SS→SS
 | 0,s=>s
 | n+1,s=>afv (qK n s)
end Go.Proofs.YtbmopacdflgfjaaGreatDoor
namespace Go.Proofs.YtbmopacdflgfjaaGreatDoor.topReweigh
open Go
set_option maxRecDepth 100000
theorem ba {a b:Bool} (h:a=true) (k:b=true):(a&&b)=true:=by rw[h,k];rfl
theorem j0:(Rows.topReweighRow.wf (OpenSpec.ofChange Rows.topReweighSpec))=true:=by kernel_rfl
theorem j1:(laidOutB Tryz.pinned.checked.prog)=true:=by kernel_rfl
theorem j2:(mapsRowed Tryz.pinned.checked.prog)=true:=by kernel_rfl
theorem j3:(Tryz.f3.params.all (Tryz.pinned.checked.prog.readableRec ·))=true:=by kernel_rfl
theorem j4:(namedTie Tryz.pinned.checked.prog Rows.topReweighRow.named Rows.topReweighSpec.vars)=true:=by kernel_rfl
theorem j5:((Rows.topReweighRow.stops==[]))=true:=by kernel_rfl
theorem j6:((Tryz.pinned.checked.prog.stops==[]))=true:=by kernel_rfl
theorem j7:((Rows.topReweighRow.knobs==[]))=true:=by kernel_rfl
theorem j8:((Tryz.pinned.checked.prog.stopKnobs==[]))=true:=by kernel_rfl
theorem j9:((Rows.topReweighRow.inPlace==Tryz.pinned.checked.prog.inPlace 3))=true:=by kernel_rfl
theorem j10:((Rows.topReweighRow.unfollowed==Tryz.pinned.checked.prog.unfollowed 3))=true:=by kernel_rfl
theorem j11:((Rows.topReweighRow.recurses==Tryz.pinned.checked.prog.recurses 3))=true:=by kernel_rfl
theorem j12:((Rows.topReweighRow.named==Tryz.pinned.checked.prog.varsNamed 3))=true:=by kernel_rfl
theorem j13:((Rows.topReweighRow.maps==(Tryz.f3.params.toList++Rows.topReweighSpec.plain.varTypes Tryz.pinned.checked.prog).any (Tryz.pinned.checked.prog.mapsRec ·)))=true:=by kernel_rfl
theorem j14:((Rows.topReweighRow.ifaces==(Tryz.f3.params.toList++Rows.topReweighSpec.plain.varTypes Tryz.pinned.checked.prog).any (Tryz.pinned.checked.prog.ifacesRec ·)))=true:=by kernel_rfl
theorem j15:((Rows.topReweighRow.mapsOut==Tryz.pinned.checked.prog.mapsAmong Tryz.f3.resultTypes.toList))=true:=by kernel_rfl
theorem j16:((Rows.topReweighRow.loops==(Tryz.f3.params.toList++Rows.topReweighSpec.plain.varTypes Tryz.pinned.checked.prog).any (Tryz.pinned.checked.prog.loopsFrom ·)))=true:=by kernel_rfl
theorem j17:((Rows.topReweighRow.wideKeys==(Tryz.f3.params.toList++Rows.topReweighSpec.plain.varTypes Tryz.pinned.checked.prog++Tryz.f3.resultTypes.toList).any (Tryz.pinned.checked.prog.wideKeysFrom ·)))=true:=by kernel_rfl
theorem j18:(Rows.topReweighSpec.vars.all (Tryz.pinned.checked.prog.varReadable ·))=true:=by kernel_rfl
theorem j19:(Tryz.f3.resultTypes.all (fun t=>Tryz.pinned.checked.prog.readableRec t&&decide (t<Tryz.pinned.checked.prog.types.size)))=true:=by kernel_rfl
theorem j20:((Rows.topReweighRow.ifacesOut==Tryz.f3.resultTypes.toList.any (Tryz.pinned.checked.prog.ifacesRec ·)))=true:=by kernel_rfl
theorem j21:((Rows.topReweighRow.loopsOut==Tryz.f3.resultTypes.toList.any (Tryz.pinned.checked.prog.loopsFrom ·)))=true:=by kernel_rfl
theorem j22:((Rows.topReweighRow.plainKeys==Tryz.pinned.checked.prog.plainKeys))=true:=by kernel_rfl
theorem j23:(Rows.topReweighRow.shortTexts.isNone)=true:=by kernel_rfl
theorem j24:(Tryz.pinned.checked.prog.stopsHeard)=true:=by kernel_rfl
theorem j25:(Tryz.pinned.checked.prog.mayEnter)=true:=by kernel_rfl
theorem j26:((Rows.topReweighRow.lifted==Tryz.pinned.checked.prog.liftsFinal))=true:=by kernel_rfl
theorem j27:((Tryz.pinned.checked.prog.make==some Rows.topReweighRow.make))=true:=by kernel_rfl
theorem j28:((Rows.topReweighRow.kinds==(if Rows.topReweighRow.domain.isEmpty then[] else Tryz.f3.params.toList.map fun t=>match Tryz.pinned.checked.prog.underlying t with|some (.int k)=>some k|_=>none)))=true:=by kernel_rfl
theorem j29:((Rows.topReweighRow.pinned==Rows.topReweighRow.pinnedBy))=true:=by kernel_rfl
theorem j30:((Rows.topReweighRow.veiled==(Tryz.f3.params.toList++Rows.topReweighSpec.plain.varTypes Tryz.pinned.checked.prog++Tryz.f3.resultTypes.toList).any (Tryz.pinned.checked.prog.veiledRec ·)))=true:=by kernel_rfl
theorem j31:(Rows.topReweighRow.veiledFits Tryz.pinned.checked.prog Tryz.f3.params.toList (Tryz.f3.params.toList++Rows.topReweighSpec.plain.varTypes Tryz.pinned.checked.prog++Tryz.f3.resultTypes.toList))=true:=by kernel_rfl
theorem closed:joinedFacts Tryz.pinned.checked.prog 3 Tryz.f3 Rows.topReweighSpec Rows.topReweighRow=true:=by unfold joinedFacts;exact(ba (ba (ba (ba (ba (ba (ba (ba (ba (ba (ba (ba (ba (ba (ba (ba (ba (ba (ba (ba (ba (ba (ba (ba (ba (ba (ba (ba (ba (ba (ba j0 j1) j2) j3) j4) j5) j6) j7) j8) j9) j10) j11) j12) j13) j14) j15) j16) j17) j18) j19) j20) j21) j22) j23) j24) j25) j26) j27) j28) j29) j30) j31)
end Go.Proofs.YtbmopacdflgfjaaGreatDoor.topReweigh
