/- Ends of proofs that occur more than once: each is a theorem whose default argument is that end. -/
import Derived.BigQuiet
import Derived.Deep.AppendLies
import Derived.Deep.CutBlock
import Derived.Deep.DeepCutAuto
import Derived.Deep.Draws
import Derived.Deep.LoopGhost
import Derived.Deep.QuietTactic
import Derived.Deep.RegionHeld3
import Derived.Deep.RegionWith
import Derived.DeepKeys4
import Derived.JoinedOf
import Derived.LaidLaws
import Derived.LaidMore
import Derived.LaidOnce
import Derived.Laws.BitsAllLaws
import Derived.Laws.Cover1
import Derived.Laws.IdiomCopy
import Derived.Laws.MakeOwn
import Derived.Laws.OwnMore
import Derived.Laws.RangeAny
import Derived.Laws.RangeString
import Derived.Laws.ResultCell
import Derived.Laws.Rows
import Derived.Laws.Slices
import Derived.Laws.Strings
import Derived.Lay
import Derived.Lib.ConvBytes
import Derived.Lib.IndexMore
import Derived.Lib.SliceRun
import Derived.Lib.Split
import Derived.LoopIn
import Derived.LoopNIn
import Derived.Maps.AppendAt
import Derived.Maps.OwnSet
import Derived.OpenShut
import Derived.OrdersHeld
import Derived.OwnWalk
import Derived.OwnWalkIn
import Derived.ProofKit
import Derived.RegionTactic
import Derived.SevenTiedAt
import Derived.ShutString
import Derived.Stop.Joined
import Derived.Stop.LaidErr
import Derived.TacticsInMore
import Derived.WalkKit
import Derived.WalkSmall
namespace Go.Proofs
open Go Go.RowKit
set_option maxRecDepth 100000
variable {P Q:Prop}
structure Zt (n:Nat):Prop
theorem zt (n:Nat):Zt n:=⟨⟩
theorem z7 (h:P:=by omega):P:=h
theorem z8 (h:P:=by first|exact HB.out|exact below_drewN HB.out _|exact below_drewN (below_drewN HB.out _) _|exact below_drewN (below_drewN (below_drewN HB.out _) _) _):P:=h
theorem za (h:P:=by as_aux_lemma=>kernel_rfl):P:=h
theorem zd (h:P:=by simp):P:=h
theorem ze (h:P:=by intro e;injection e with e;omega):P:=h
theorem zf (h:P:=by intro k2 c2 x2 h1 h2;cases k2 with|zero=>(simp only[List.getElem?_cons_zero,Option.some.injEq] at h1 h2;subst h1;subst h2;exact bG.weaken (bG.keep HX.out fun b _ hb=>aH.block b hb) (fun b hb _=>⟨af gZ.size hb,fun e=>z5F⟩))|succ k2=>simp at h1):P:=h
theorem zg (h:P:=by intro c hc u hu;simp at hc;subst hc;simp at hu;rcases hu with rfl|rfl|rfl<;>rfl):P:=h
theorem zh (h:P:=by kernel_rfl):P:=h
theorem zi (h:P:=by injection hq with hq;omega):P:=h
theorem zj (h:P:=by have:=HN.out;omega):P:=h
theorem zk (h:P:=by show _≤w.heap.size+1;omega):P:=h
theorem zl (h:P:=by unfold Tl;simp):P:=h
theorem zm (h:P:=by intro k2 c2 x2 h1 h2;cases k2 with|zero=>(simp at h1 h2;subst h1;subst h2;exact⟨rfl,HI.out⟩)|succ k2=>simp at h1):P:=h
theorem zn (h:P:=by intro k2 c2 x2 h1 h2;cases k2 with|zero=>(simp only[List.getElem?_cons_zero,Option.some.injEq] at h1 h2;subst h1;subst h2;exact(az (d'+1)).weaken ((az (d'+1)).keep HX.1 fun b _ hb=>aH.block b hb) (fun b hb _=>⟨af eB.1 hb,fun e=>by have:=eB.2 _ e.symm;omega⟩))|succ k2=>simp at h1):P:=h
theorem zo (h:P:=by have:=HS.len;have:=HS.k3;simp;omega):P:=h
theorem zq (h:P:=by intro c hc u hu;simp at hc;subst hc;simp at hu;rcases hu with rfl|rfl|rfl|rfl|rfl<;>rfl):P:=h
theorem zr (h:P:=by have:=cO.out;simp;omega):P:=h
theorem zv (h:P:=by have:=ig.out;have:=oh.out;intro e;injection e with e;omega):P:=h
theorem zw (h:P:=by intro c hc u hu;simp at hc;subst hc;simp at hu;subst hu;rfl):P:=h
theorem zx (h:P:=by injection hk with hk;omega):P:=h
theorem zy (h:P:=by intro k2 c2 x2 h1 h2;cases k2 with|zero=>(simp only[List.getElem?_cons_zero,Option.some.injEq] at h1 h2;subst h1;subst h2;exact HG.elem bM aH.out)|succ k2=>simp at h1):P:=h
theorem zA (h:P:=by intro r hr;rcases List.mem_append.1 hr with hr|hr;exact⟨(jA.out r hr).2,(jA.out r hr).1⟩;simp only[List.mem_singleton] at hr;rw[hr];exact⟨um.2,um.1⟩):P:=h
theorem zB (h:P:=by have:=qF.out;intro e;injection e with e;omega):P:=h
theorem zC (h:P:=by have:=qZ.out;rw[←hL,List.length_append];simp only[List.length_cons,List.length_nil];omega):P:=h
theorem zD (h:P:=by have:=(gK _ e.symm).1;omega):P:=h
theorem zE (h:P:=by intro c hc u hu;simp at hc;subst hc;simp at hu;rcases hu with rfl|rfl|rfl|rfl|rfl|rfl|rfl|rfl|rfl|rfl|rfl<;>rfl):P:=h
theorem zF (h:P:=by intro e;injection e with e;have:=HD.lt;omega):P:=h
theorem zG (h:P:=by intro k2 c2 x2 h1 h2;cases k2 with|zero=>(simp only[List.getElem?_cons_zero,Option.some.injEq] at h1 h2;subst h1;subst h2;exact⟨rfl,HT.2⟩)|succ k2=>simp at h1):P:=h
theorem zH (h:P:=by intro r hr;rcases List.mem_append.1 hr with hr|hr;exact jA.out r hr;simp only[List.mem_singleton] at hr;rw[hr];exact um.out):P:=h
theorem zI (h:P:=by injection hk with hk;subst hk;exact⟨fun h=>Nat.lt_irrefl _ (qI.out _ h),fun e=>by have:=(aF.1.lt _ e).1;omega⟩):P:=h
theorem zJ (h:P:=by intro e;injection e with e;have:=eB.out;omega):P:=h
theorem zK (h:P:=by rw[IntKind.wrap_i64];omega):P:=h
theorem zL (h:P:=by decide):P:=h
theorem zM (h:P:=by rw[←hL];intro y hy;rcases List.mem_append.1 hy with hy|hy;exact HA.al y hy;simp only[List.mem_singleton] at hy;rw[hy];exact HX.2):P:=h
theorem zN (h:P:=by have:=Ct.out;have:=HN.out;have:=Np.out;omega):P:=h
theorem zO (h:P:=by have:=cO.out;omega):P:=h
theorem zP (h:P:=by injection hq with hq;exact hq.symm):P:=h
theorem zQ (h:P:=by intro k9 c9 x9 h1 h2;cases k9 with|zero=>(simp only[List.getElem?_cons_zero,Option.some.injEq] at h1 h2;subst h1;subst h2;exact(az D).weaken ((az D).keep ((az D).weaken (bS:=fun q=>av q∧q<w.heap.size) (Jz HD.out HV.out) fun q hq hl=>⟨hq,hl⟩) fun q _ hq=>dI.block q hq) fun q hq _=>⟨hq.1,fun h=>by have:=(bW.lt q h.symm).1;have:=hq.2;omega⟩)|succ k9=>simp at h1):P:=h
theorem zR (h:P:=by have:=eB.out;omega):P:=h
theorem zS (h:P:=by have:=(hlt _ e).1;omega):P:=h
theorem zT (h:P:=by have:=oh.out;injection hq with hq;omega):P:=h
theorem zU (h:P:=by intro j;rw[Bool.or_eq_true,beq_iff_eq,beq_iff_eq] at hr;rcases hr with hr|hr<;>rw[hr]<;>simp[or_comm]):P:=h
theorem zV (h:P:=by intro u hu;simp only[List.mem_cons,List.not_mem_nil,or_false] at hu;rcases hu with rfl|rfl|rfl<;>rfl):P:=h
theorem zW (h:P:=by have h1:=HW.size;have h2:=aS.size;have h3:=iT.size;omega):P:=h
theorem zX (h:P:=by unfold maxLen;omega):P:=h
theorem zY (h:P:=by intro e;injection e with e;exact hne e):P:=h
theorem zZ (h:P:=by have:=ig.out;omega):P:=h
theorem z10 (h:P:=by rw[hc.1];exact(Array.getElem?_eq_some_iff.1 ho).1):P:=h
theorem z11 (h:P:=by rw[←hL,List.length_append];have:=cO.out;simp only[List.length_cons,List.length_nil];omega):P:=h
theorem z14 (h:P:=by have:=qG.out;simp;omega):P:=h
theorem z15 (h:P:=by have:=HQ.1.get jY underlying260 (Lr wq) EG.out false;rw[sD.2.1 yf,sF.out] at this;exact this):P:=h
theorem z16 (h:P:=by intro k2 c2 x2 h1 h2;cases k2 with|zero=>(simp only[List.getElem?_cons_zero,Option.some.injEq] at h1 h2;subst h1;subst h2;exact(az lvl).weaken HXA.out (fun q hq _=>⟨hq,fun e=>by have h1:=qI.out q hq;have h2:=uI.out q e.symm;omega⟩))|succ k2=>simp at h1):P:=h
theorem z17 (h:P:=by unfold Addr.add;split<;>simp_all):P:=h
theorem z18 (h:P:=by have:=(h.ow.lt g e).1;omega):P:=h
theorem z19 (h:P:=by have:=HN.out;rw[List.length_map,List.length_take];simp;omega):P:=h
theorem z1a (h:P:=by intro k2 c2 x2 h1 h2;cases k2 with|zero=>(simp at h1 h2;subst h1;subst h2;exact⟨rfl,JK.out⟩)|succ k2=>simp at h1):P:=h
theorem z1b (h:P:=by intro c hc u hu;simp at hc;subst hc;simp at hu;rcases hu with rfl|rfl<;>rfl):P:=h
theorem z1c (h:P:=by have:=(aF.1.lt k h).2;omega):P:=h
theorem z1d (h:P:=by have:=mK.out k hk;omega):P:=h
theorem z1e (h:P:=by show k≠w.heap.size+1;omega):P:=h
theorem z1f (h:P:=by have:=jQ.out;omega):P:=h
theorem z1g (h:P:=by have:=qE.2;omega):P:=h
theorem z1h (h:P:=by have:=(uI.out bn (by rw[sF.out];exact e.symm)).1;have:=ig.2;omega):P:=h
theorem z1i (h:P:=by have:=qw.out;have:=cO.out;simp;omega):P:=h
theorem z1j (h:P:=by rw[ic];rfl):P:=h
theorem z1k (h:P:=by rw[←hL];simp):P:=h
theorem z1l (h:P:=by injection hk with hk;subst hk;exact⟨fun h=>h.2 rfl,HOW.2⟩):P:=h
theorem z1m (h:P:=by have:=HG.2.1;intro e;injection e with e;omega):P:=h
theorem z1n (h:P:=by rw[hk];rfl):P:=h
theorem z1o (h:P:=by intro c hc u hu;simp at hc;subst hc;simp at hu;rcases hu with rfl|rfl|rfl|rfl<;>rfl):P:=h
theorem z1p (h:P:=by have:=jM.out;omega):P:=h
theorem z1q (h:P:=by have:=yQ.out;omega):P:=h
theorem z1r (h:P:=by have:=HI.mr;omega):P:=h
theorem z1s (h:P:=by intro k2 c2 x2 h1 h2;cases k2 with|zero=>(simp only[List.getElem?_cons_zero,Option.some.injEq] at h1 h2;subst h1;subst h2;exact HG.elem je aH.out)|succ k2=>simp at h1):P:=h
theorem z1t (h:P:=by have:=(wT.out k hk).1;have:=aK.lt;omega):P:=h
theorem z1u (h:P:=by have:=(wT.out k hk).1;have:=kE.lt;omega):P:=h
theorem z1v (h:P:=by have:=(uI.out gn (by rw[sF.out];exact e.symm)).1;omega):P:=h
theorem z1w (h:P:=by have:=dh.b.lt;omega):P:=h
theorem z1x (h:P:=by rw[hk] at h5;simpa using h5):P:=h
theorem z1y (h:P:=by rw[e0];simpa [dN] using hne):P:=h
theorem z1z (h:P:=by first|exact hq|exact hq.1):P:=h
theorem z1A (h:P:=by have:=cO.out;have:=jc.out;simp;omega):P:=h
theorem z1B (h:P:=by cases h):P:=h
theorem z1C (h:P:=by intro x hx;simp at hx;subst hx;exact hs):P:=h
theorem z1D (h:P:=by have:=(Gc e).2 (.inl rfl);rw[h0] at this;cases this):P:=h
theorem z1E (h:P:=by have:=HQ.2.1 yf;rw[sF.out,EH.1] at this;exact this):P:=h
theorem z1F (h:P:=by rcases hk.1 with h|h;have:=qI.out k h;omega;omega):P:=h
theorem z1G (h:P:=by have:=qZ.out;simp;omega):P:=h
theorem z1H (h:P:=by have:=(uI.out q (by rw[sF.out];exact hq)).1;omega):P:=h
theorem z1I (h:P:=by have:=HN.2;omega):P:=h
theorem z1J (h:P:=by have:=hq.1;omega):P:=h
theorem z1K (h:P:=by have:=HC.out;rw[show dB (d+1)=1+4*dB d from rfl] at this;omega):P:=h
theorem z1L (h:P:=by have:=yP.out;omega):P:=h
theorem z1M (h:P:=by rw[←BG.out];simp):P:=h
theorem z1N (h:P:=by have:=CV.out;omega):P:=h
theorem z1O (h:P:=by have:=H9.2.1.lt;omega):P:=h
theorem z1P (h:P:=by have:=(HA.ow.lt _ hq).1;have:=HA.wN;omega):P:=h
theorem z1Q (h:P:=by intro k2 c2 x2 h1 h2;cases k2 with|zero=>(simp at h1 h2;subst h1;subst h2;exact⟨rfl,HTA.out,Xr.out⟩)|succ k2=>simp at h1):P:=h
theorem z1R (h:P:=by intro x hx;simp at hx;subst hx;exact El.out):P:=h
theorem z1S (h:P:=by unfold df;decide):P:=h
theorem z1T (h:P:=by rw[List.length_map,List.length_take];omega):P:=h
theorem z1U (h:P:=by have:=HN.1;omega):P:=h
theorem z1V (h:P:=by cases vals<;>simp):P:=h
theorem z1W (h:P:=by first|rfl|trivial):P:=h
theorem z1X (h:P:=by have:=(HOW.1.lt g e).1;omega):P:=h
theorem z1Y (h:P:=by injection hk with hk;have:=yh.1;omega):P:=h
theorem z1Z (h:P:=by have:=XK.out;have:=EH.2;simp;omega):P:=h
theorem z25 (h:P:=by have:=HQ.2.2.size;have:=uo.gs;omega):P:=h
theorem z26 (h:P:=by have:=HS.a0;omega):P:=h
theorem z27 (h:P:=by have:=HS.lt;omega):P:=h
theorem z28 (h:P:=by first|exact HB.out|exact HB.alloc HB.size _|exact below_drewN (HB.alloc HB.size _) _|exact below_drewN HB.out _):P:=h
theorem z29 (h:P:=by have:=lD.out;show w2.heap.size≠w1.heap.size;omega):P:=h
theorem z2a (h:P:=by have:=Ei.out;show w.heap.size≠w1.heap.size;omega):P:=h
theorem z2b (h:P:=by have:=Ei.out;show w.heap.size≤w1.heap.size;omega):P:=h
theorem z2c (h:P:=by have:=(HA.ow.lt _ e.symm).1;omega):P:=h
theorem z2d (h:P:=by intro u hu;simp only[List.mem_cons,List.not_mem_nil,or_false] at hu;rcases hu with rfl|rfl<;>rfl):P:=h
theorem z2e (h:P:=by have:=HG.2.2;omega):P:=h
theorem z2f (h:P:=by have h:=Gz.2.2.1.below dI;have h1:=Gz.1;have h2:=cO.out;rw[h1,h2];rw[h2] at h;exact h):P:=h
theorem z2g (h:P:=by rw[oQ.out,if_neg HFE.out];simp):P:=h
theorem z2h (h:P:=by injection hq with hq;subst hq;exact⟨fun h=>h.2 rfl,fun e=>by have:=eB.2 _ e;omega⟩):P:=h
theorem z2i (h:P:=by have h:=iI.todo.sl.1;exact h):P:=h
theorem z2j (h:P:=by have:=(HI.ow.lt _ e).2;omega):P:=h
theorem z2k (h:P:=by rw[←cb];exact World.cell?_of_block (Below.heap_setCell _ _ _ _ (by rw[kQ];exact hne))):P:=h
theorem z2l (h:P:=by have h:=(HM.1.below bq).get QA underlying246 (RD _) uR.out true;rw[HR.out] at h;exact h):P:=h
theorem z2m (h:P:=by rw[uY] at hk;exact hk):P:=h
theorem z2n (h:P:=by have h:=hR _ aj;obtain⟨_,_,_,h,_⟩:=h;injection h with h _;exact⟨_,h⟩):P:=h
theorem z2o (h:P:=by rw[fO];exact Below.refl _ _):P:=h
theorem z2p (h:P:=by show gn<wq.heap.size;omega):P:=h
theorem z2q (h:P:=by unfold maxLen;simp<;>omega):P:=h
theorem z2r (h:P:=by have:=congrArg (·[0]?) hc;simpa [List.getElem?_take,List.getElem?_drop] using this):P:=h
theorem z2s (h:P:=by obtain⟨_,_,_,hcs,_,_,_,ht,_⟩:=hR _ aj;exact⟨z5B,ht⟩):P:=h
theorem z2t (h:P:=by injection hk with hk;have:=Xo.out;omega):P:=h
theorem z2u (h:P:=by rw[List.length_drop];omega):P:=h
theorem z2v (h:P:=by rw[ha,Nat.succ_mul];omega):P:=h
theorem z2w (h:P:=by have:=dz.2.2;omega):P:=h
theorem z2x (h:P:=by obtain⟨cv,rfl,_,h2,_⟩:=Gl _ aj;exact⟨_,h2,cell0 (hcell _ aj) rfl⟩):P:=h
theorem z2y (h:P:=by unfold jS;rw[hv];exact if_pos (.inl hl)):P:=h
theorem z2z (h:P:=by unfold jS;rw[hv];exact if_pos (.inr hh)):P:=h
theorem z2A (h:P:=by have:=HD.out;omega):P:=h
theorem z2B (h:P:=by rw[jf.out];exact Hr):P:=h
theorem z2C (h:P:=by rw[hs,Sem.run_bind,h2 W (hC W hW)];simp only[Result.andThen_ok,Sem.run_pure]):P:=h
theorem z2D (h:P:=by have:=HC.out;rw[show dB (d+1)=1+4*dB d from rfl] at this;simp;omega):P:=h
theorem z2E (h:P:=by rw[hr];exact List.mem_singleton_self _):P:=h
theorem z2F (h:P:=by have:=dh.lt;omega):P:=h
theorem z2G (h:P:=by unfold df;omega):P:=h
theorem z2H (h:P:=by unfold Xl;omega):P:=h
theorem z2I (h:P:=by rw[HE.out];rfl):P:=h
theorem z2J (h:P:=by have:=aK.lt;omega):P:=h
theorem z2K (h:P:=by have:=kE.lt;omega):P:=h
theorem z2L (h:P:=by have h5:=(HR.1.last m r rfl).2.2.1;rw[xN.out] at e;have h6:=OP.out;omega):P:=h
theorem z2M (h:P:=by have:=U3.out.o.lt;omega):P:=h
theorem z2N (h:P:=by have:=yO.1;omega):P:=h
theorem z2O (h:P:=by have:=Er.2;omega):P:=h
theorem z2P (h:P:=by have:=h.bs;omega):P:=h
theorem z2Q (h:P:=by have:=(HR.ab k hk).1;have:=HR.bs;have:=bA.out;have:=eB.out;omega):P:=h
theorem z2R (h:P:=by first|exact HB.alloc HB.size _|exact below_drewN (HB.alloc HB.size _) _):P:=h
theorem z2S (h:P:=by rw[sF.out];exact aF.2.1):P:=h
theorem z2T (h:P:=by rw[HGX.out,Fp.out];rfl):P:=h
theorem z2U (h:P:=by have:=qI.out k h;omega):P:=h
theorem z2V (h:P:=by have:=qw.out;have:=cO.out;omega):P:=h
theorem z2W (h:P:=by constructor<;>(simp only[];omega)):P:=h
theorem z2X (h:P:=by have:=XE.out;have:=yQ.out;omega):P:=h
theorem z2Y (h:P:=by have:=Eo.out;have:=jB.2.2;omega):P:=h
theorem z2Z (h:P:=by have:=Ro.out;have:=Es.1;have:=Fv.out;show fl.length≤4;omega):P:=h
theorem z30 (h:P:=by have h:=fG _ aj;obtain⟨_,_,_,rfl,_⟩:=h;exact⟨_,rfl⟩):P:=h
theorem z32 (h:P:=by rw[HN.out,if_neg HC.out,if_neg (by rw[kZ.out (.inl HX.out)];simp)]):P:=h
theorem z33 (h:P:=by rw[HN.out,if_neg HC.out,if_neg (by rw[kZ.out (.inr HX.out)];simp)]):P:=h
theorem z34 (h:P:=by show fl.map FL.key=Jy.take fl.length;rw[Fv.out,Es.1];exact Es.2.1):P:=h
theorem z35 (h:P:=by rw[hb];omega):P:=h
theorem z36 (h:P:=by have:=HK.2;have:=jM.out;omega):P:=h
theorem z38 (h:P:=by rw[Nat.succ_mul];exact Nat.add_le_add_left (Nat.le_add_right _ _) _):P:=h
theorem z39 (h:P:=by rw[Fv.out];exact hlt):P:=h
theorem z3a (h:P:=by have:=sG.gw;have:=sG.wN;have:=sG.NM;have:=Ct.out;omega):P:=h
theorem z3b (h:P:=by have:=qF.out;have:=oh.out;intro e;injection e with e;omega):P:=h
theorem z3c (h:P:=by have:=AJ.size;omega):P:=h
theorem z3d (h:P:=by rw[HZB.out];exact jO):P:=h
theorem z3e (h:P:=by rw[HH.1,HH.2];omega):P:=h
theorem z3f (h:P:=by injection hk with hk;subst hk;exact⟨fun h=>h.2 rfl,h.oG⟩):P:=h
theorem z3g (h:P:=by intro e;cases e):P:=h
theorem z3h (h:P:=by injection hk with hk;subst hk;exact⟨fun h=>h.2 rfl,hv⟩):P:=h
theorem z3i (h:P:=by have:=HV.2.1;omega):P:=h
theorem z3j (h:P:=by have:=bH.2.2;omega):P:=h
theorem z3k (h:P:=by have:=yO.2.1;omega):P:=h
theorem z3l (h:P:=by rw[EH.1];exact aF.1):P:=h
theorem z3m (h:P:=by have:=(h.ow.lt q hq).1;omega):P:=h
theorem z3n (h:P:=by rw[Array.getElem?_toList,Array.getElem?_eq_getElem hk];rfl):P:=h
theorem z3o (h:P:=by have h1:=HG.1;have h2:=HU.out;have h3:=HGH.out;omega):P:=h
theorem z3p (h:P:=by have h1:=lU.1;have h2:=HX.2.1;have h3:=cO.out;omega):P:=h
theorem z3q (h:P:=by have:=HLO.out;have:=Rt.out;show ll.length≤8;omega):P:=h
theorem z3r (h:P:=by have:=(HR.ab k hk).1;intro e;injection e with e;omega):P:=h
theorem z3s (h:P:=by have:=HX.1;omega):P:=h
theorem z3t (h:P:=by have:=yh.1;omega):P:=h
theorem z3u (h:P:=by have:=yO.2;have:=Eo.out;rw[List.length_map];omega):P:=h
theorem z3v (h:P:=by rw[HN.out,if_neg HC.out,if_neg (by rw[kZ.out];simp)]):P:=h
theorem z3w (h:P:=by have:=tL.1;have:=Eo.out;show yC.length≤8;omega):P:=h
theorem z3x (h:P:=by have:=tL.1;have:=Eo.out;show yC.length≤3;omega):P:=h
theorem z3y (h:P:=by rw[List.take_add_one,List.getElem?_eq_getElem aX];rfl):P:=h
theorem z3z (h:P:=by have:=HG.2.2;show w1.heap.size≠w.heap.size;omega):P:=h
theorem z3A (h:P:=by intro c hc;simp at hc;rcases hc with rfl|rfl<;>rfl):P:=h
theorem z3B (h:P:=by unfold Tl at hs;show l.toArray.size≤_;simp;omega):P:=h
theorem z3C (h:P:=by have:=yP.out;simp;omega):P:=h
theorem z3D (h:P:=by have:=cO.out;have:=Fw.out;have:=HN9.out;omega):P:=h
theorem z3E (h:P:=by obtain⟨_,_,_,hx⟩:=hP.b2;exact hx.frozen k):P:=h
theorem z3F (h:P:=by have:=HS.high _ h;omega):P:=h
theorem z3G (h:P:=by have:=bI.1.lt;intro e;injection e with e;omega):P:=h
theorem z3H (h:P:=by have:=HP.lo.size;omega):P:=h
theorem z3I (h:P:=by have:=cO.1;rw[qV] at this;simp at this;omega):P:=h
theorem z3J (h:P:=by have:=HG.out;intro e;injection e with e;omega):P:=h
theorem z3K (h:P:=by have:=(HR.ab k hk).1;have:=HQ.2.1.size;omega):P:=h
theorem z3L (h:P:=by intro e;injection e with e;subst e;exact Pm hk):P:=h
theorem z3M (h:P:=by rw[JF];rfl):P:=h
theorem z3N (h:P:=by have:=H1.2.1.lt;omega):P:=h
theorem z3O (h:P:=by intro e;injection e with e;exact HS.gb e.symm):P:=h
theorem z3P (h:P:=by have:=hN.a;have:=hN.b;have:=hN.c;omega):P:=h
theorem z3Q (h:P:=by rw[hr] at h0;cases h0):P:=h
theorem z3R (h:P:=by have:dB (d+1)=1+4*dB d:=rfl;omega):P:=h
theorem z3S (h:P:=by have h1:=HII.out;have h3:=HN.2.2.1;omega):P:=h
theorem z3T (h:P:=by have:=HW.size;omega):P:=h
theorem z3U (h:P:=by rw[e];rfl):P:=h
theorem z3V (h:P:=by unfold Tl at lZ;omega):P:=h
theorem z3W (h:P:=by have:=HNR.out;omega):P:=h
theorem z3X (h:P:=by have h1:=lU.2.1;have h2:=cO.out;omega):P:=h
theorem z3Y (h:P:=by have h1:=lU.out;have h2:=HG.out;omega):P:=h
theorem z3Z (h:P:=by obtain⟨_,_,hf⟩:=he;exact hf.elim):P:=h
theorem z40 (h:P:=by rw[hj] at h;cases h):P:=h
theorem z41 (h:P:=by rw[←EW];exact o1):P:=h
theorem z42 (h:P:=by have:=nM.out;omega):P:=h
theorem z43 (h:P:=by rw[HM.out];exact rD):P:=h
theorem z44 (h:P:=by have:=aS.2.2;omega):P:=h
theorem z45 (h:P:=by have:=bJ.2.2;omega):P:=h
theorem z47 (h:P:=by have:=HP.out;omega):P:=h
theorem z48 (h:P:=by have:=Nk.out;omega):P:=h
theorem z49 (h:P:=by have:=qY.out;omega):P:=h
theorem z4a (h:P:=by have:=cZ.out;omega):P:=h
theorem z4b (h:P:=by rw[Sem.run_bind,h2 W hW];exact h3 W hW):P:=h
theorem z4c (h:P:=by intro e;injection e with e;exact wX.1 e):P:=h
theorem z4d (h:P:=by rw[HN.out,if_neg HC.out,if_pos HD.out]):P:=h
theorem z4e (h:P:=by have:=h.b11;omega):P:=h
theorem z4f (h:P:=by have:=HII.out;have:=HN.2.2.1;omega):P:=h
theorem z4g (h:P:=by rw[←hL];have:=ym.out;simp;omega):P:=h
theorem z4h (h:P:=by have:=U.mid;omega):P:=h
theorem z4i (h:P:=by have:=jA.f4;omega):P:=h
theorem z4j (h:P:=by cases t<;>simp[h]):P:=h
theorem z4k (h:P:=by have:=rG.size;have:=HSW.out;omega):P:=h
theorem z4l (h:P:=by have:=uq.lt;have:=Cx.1.size;omega):P:=h
theorem z4m (h:P:=by have:=mZ.lt;have:=HB.1.size;omega):P:=h
theorem z4n (h:P:=by have:=rZ.mid;show gH<gO+1;omega):P:=h
theorem z4o (h:P:=by show(0:Int)≤(b:Int)+1;omega):P:=h
theorem z4p (h:P:=by rw[List.append_nil];exact hS.below hb):P:=h
theorem z4q (h:P:=by rw[List.getElem?_cons_succ];exact hx):P:=h
theorem z4r (h:P:=by have:=qd.2;omega):P:=h
theorem z4s (h:P:=by have:=HR.2;omega):P:=h
theorem z4t (h:P:=by have:=HI.2;omega):P:=h
theorem z4u (h:P:=by have:=hk.2;omega):P:=h
theorem z4v (h:P:=by have:=GG.2;omega):P:=h
theorem z4w (h:P:=by have:=hk.1;omega):P:=h
theorem z4x (h:P:=by have:=ym.1;omega):P:=h
theorem z4y (h:P:=by have:=qw.out;have:=iI.out;omega):P:=h
theorem z4z (h:P:=by show at_<at_+1+(x:Int);omega):P:=h
theorem z4A (h:P:=by have:=HLn.out;unfold maxLen;omega):P:=h
theorem z4B (h:P:=by have:=XL.out;have:=vG.out;omega):P:=h
theorem z4C (h:P:=by have:=bJ.2.2;have:=bV.2.2;omega):P:=h
theorem z4D (h:P:=by have:=HG.out;have:=eB.out;omega):P:=h
theorem z4E (h:P:=by rw[hcc];exact hz):P:=h
theorem z4F (h:P:=by rw[xV];rfl):P:=h
theorem z4G (h:P:=by have:=HXO.1;have:=Fu.out;omega):P:=h
theorem z4H (h:P:=by have:=(bs[k]'hlt).toNat_lt;omega):P:=h
theorem z4I (h:P:=by rw[ByteArray.toList_eq];simp[he]):P:=h
theorem z4J (h:P:=by have:=yP.out;have:=HN.2;omega):P:=h
theorem z4K (h:P:=by have:=hI.S0;have:=hI.V0;omega):P:=h
theorem z4L (h:P:=by have:=HF.NM;have:=HF.mr;omega):P:=h
theorem z4M (h:P:=by rw[e] at hlen;simp at hlen;omega):P:=h
theorem z4N (h:P:=by rw[jM.out];exact if_pos (.inl hl)):P:=h
theorem z4O (h:P:=by rw[jM.out];exact if_pos (.inr hh)):P:=h
theorem z4P (h:P:=by have:=Xz.1;have:=Fj.out;omega):P:=h
theorem z4Q (h:P:=by rw[HE.out];exact(HC.end_ HZ.2).1):P:=h
theorem z4R (h:P:=by rw[HX.out];exact(HC.end_ HZ.2).1):P:=h
theorem z4S (h:P:=by show(b:Int)+1≤10000;omega):P:=h
theorem z4T (h:P:=by rw[jN];exact Qc):P:=h
theorem z4U (h:P:=by rw[ByteArray.size_extract];omega):P:=h
theorem z4V (h:P:=by unfold Tl;decide):P:=h
theorem z4W (h:P:=by simp[Value.oneCell']):P:=h
theorem z4X (h:P:=by injection hq with hq;subst hq;exact⟨z7,fun e=>zS⟩):P:=h
theorem z4Y (h:P:=by simp;omega):P:=h
theorem z4Z (h:P:=by simp only[List.nil_append,List.length_append,List.length_singleton,List.length_take,List.length_drop];omega):P:=h
theorem z50 (h:P:=by obtain⟨_,o,ho,_⟩:=mem_ready.1 Bi;have:e<V.size:=z10;simp[this]):P:=h
theorem z52 (h:P:=by injection hk with hk;subst hk;exact⟨z7,fun e=>z18⟩):P:=h
theorem z54 (h:P:=by injection hk with hk;subst hk;exact⟨z7,fun e=>z1X⟩):P:=h
theorem z55 (h:P:=by rw[uY];exact wD.weaken ax z7 (fun k hk hl=>⟨hk,hl⟩)):P:=h
theorem z56 (h:P:=by simpa using h2):P:=h
theorem z57 (h:P:=by simpa using h0):P:=h
theorem z58 (h:P:=by simp[Builtin.delete_,run_underlying ht,MapKept.run_getObj_map hb,K.check w _ oJ,hr,MapKept.run_setObj_map _ hb,Result.andThen,ChangeMaps.setBlock]):P:=h
theorem z59 (h:P:=by simp[Value.ownBlock]):P:=h
theorem z5a (h:P:=by simpa using qv):P:=h
theorem z5b (h:P:=by simpa [dN] using hne):P:=h
theorem z5c (h:P:=by cases hk):P:=h
theorem z5d (h:P:=by injection hq with hq;subst hq;exact⟨z7,fun e=>by have:=(hF.ow.lt _ e).1;omega⟩):P:=h
theorem z5e (h:P:=by simp at h):P:=h
theorem z5f (h:P:=by simpa using hk):P:=h
theorem z5g (h:P:=by simp[hx]):P:=h
theorem z5h (h:P:=by simp only[List.nil_append,List.length_singleton,List.length_take];omega):P:=h
theorem z5i (h:P:=by simpa using hj):P:=h
theorem z5j (h:P:=by simpa using h3):P:=h
theorem z5k (h:P:=by unfold jS;rw[hv];exact if_neg z7):P:=h
theorem z5l (h:P:=by injection hk with hk;subst hk;exact⟨fun h=>h,fun e=>z18⟩):P:=h
theorem z5m (h:P:=by simp[xS]):P:=h
theorem z5n (h:P:=by simp only[List.mem_singleton] at hy;rw[hy];exact HX.2.1):P:=h
theorem z5o (h:P:=by simp only[List.mem_singleton] at hy;rw[hy];exact HX.2.2):P:=h
theorem z5p (h:P:=by simpa using h1):P:=h
theorem z5q (h:P:=by simp;exact mR):P:=h
theorem z5r (h:P:=by simp only[List.length_nil,List.length_take];omega):P:=h
theorem z5s (h:P:=by simp only[Bool.false_eq_true,false_iff];omega):P:=h
theorem z5t (h:P:=by simp[h1]):P:=h
theorem z5u (h:P:=by simpa only[List.append_assoc] using H7.2.1):P:=h
theorem z5v (h:P:=by rw[e]):P:=h
theorem z5w (h:P:=by simpa using hi):P:=h
theorem z5x (h:P:=by simpa using Wp):P:=h
theorem z5y (h:P:=by simp<;>omega):P:=h
theorem z5z (h:P:=by simpa only[List.append_assoc] using H7.1):P:=h
theorem z5A (h:P:=by simp[h]):P:=h
theorem z5B (h:P:=by rw[hcs];rfl):P:=h
theorem z5C (h:P:=by simp[Xy.out]):P:=h
theorem z5D (h:P:=by simp[rM,Tl]):P:=h
theorem z5E (h:P:=by simp only[load,Sem.run,hc W hW,hv]):P:=h
theorem z5F (h:P:=by have:=(gZ.ow.lt b e.symm).2;omega):P:=h
theorem z5G (h:P:=by rw[Nat.or_comm,RY _ _ _ z7];omega):P:=h
theorem z5H (h:P:=by rw[hQ.num (q+1) z7 QF];exact JB):P:=h
theorem z5I (h:P:=by simpa using h):P:=h
theorem z5J (h:P:=by unfold jS;rw[hv]):P:=h
theorem z5K (h:P:=by
 refine aW [_] fun K hK=>?_;go_wp2_with fail;refine(kS _ _ _ _ [⟨0,y.hold⟩] l6 wq aK.out pX.out).mono ?_;rintro e7 w7 ⟨⟨v7,l7,rfl,D8,Bq⟩,eO⟩;have xM:=ag D8 Bq;have iT:=aa (dU aj ae dM.out);replace dM:=aa (bt aS.out (bt dM.out eO));clear D8 Bq eO;go_wp2_with fail;refine ay.go hK ?_;clear hK K;refine cmBa1 ?_;refine au ?_;go_wp2_with fail;go_loopw [10,11] (fun vo i wr=>∃(k:Nat) (lo:List SP),i= .int .i64 (k:Int)∧k≤m∧Ls 2 kU wr (fun b=>w.heap.size≤b) vo lo∧lo.length≤10000∧Below w1.heap.size w1 wr) (fun _ i _=>m-(intOf i).toNat);case atStart=>exact⟨0,l7,rfl,z7,xM.1.weaken bD z7 fun b hb _=>zW,xM.2,dM.out⟩
 case round=>
  clear xM dM qY pX aK;obtain⟨k,lo,rfl,hk,jO,rE,hB⟩:=hrel;have HO:=ag jO (ai rE hB);clear jO rE hB;obtain⟨c0,c1,c2,c3,c4,c5,c6,c7⟩:=HC.out _ HO.2.2;by_cases hlt:k<m
  ·obtain⟨ad,cs,had,aY,aI,hR,hcell⟩:=HX.cB fC (show k<v.cz.length from z1I);subst had;obtain⟨cv,rv,ce,hcs,hcv,pE,hce,E8,Ea,Ju,MK,Gj⟩:=hR _ aj;obtain⟨z0,z1,z2,A8,n8,c8,A9,n9,c9,rfl⟩:=Dp hce;obtain⟨Nr,fB,rfl,_,_⟩:=hcv.open_;obtain⟨Lm,eU,rfl,_,_⟩:=pE.open_;exact zcP (zt 2)
  ·obtain rfl:k=m:=z7;go_wp2_with fail;go_ret;exact⟨⟨_,lo,rfl,HO.1,HO.2.1⟩,bt HW.out HO.2.2⟩):P:=h
theorem z5L (h:P:=by refine aW [_] fun K hK=>?_;go_wp2_with(refine bu 124 rfl ng rfl rfl dh.b I5 ?_;intro wz aG);refine ay.go hK ?_;clear hK K;refine au ?_;have HG:=aa (dh.whole bM aG.2 aG.1 (ec:=[.string ⟨nm.toArray⟩,.int .i64 op,.string ⟨gB.toArray⟩,.string ⟨lh.toArray⟩,.slice A1 n1 mD,.slice A2 n2 ji,.int .i64 pG,.string ⟨pJ.toArray⟩,.string ⟨pK.toArray⟩,.string ⟨pI.toArray⟩,.slice A6 n6 c6]) (x:=⟨nm,ex,se⟩) ⟨[.int .i64 op,.string ⟨gB.toArray⟩,.string ⟨lh.toArray⟩,.slice A1 n1 mD,.slice A2 n2 ji],_,rfl,HX.1,qX.out,Lg.out⟩);replace HF:=aa (HF.whole bM aG.2 dh.MG dh.ow dh.oG);have um:Hid (BF ex):=HX.2;clear aG dh qX HX;obtain⟨b0,b1,b2,b3,b4,b5,b6,b7,b8,b9,JD⟩:=HG.n.b.eU;exact zcn (zt 6)):P:=h
theorem z5M (h:P:=by exact zaS (zt 1)):P:=h
theorem z5N (h:P:=by
 have uk:=HE;go_wp2_with fail;refine(dH B g 2 w2 HE.dw z7 z7).mono ?_;rintro e3 wn ⟨⟨_,rfl,r2,rfl,rD⟩,bF,aO⟩;replace HE:=aa (HE.next bF aO);have Pj:(r2:Int)<2:=z7;clear bF aO;go_wp2_with(first|(refine eD 90 rfl lI ?_;intro w4 cZ)|(refine bu 90 rfl wn.heap.size rfl rfl cZ.1 bf ?_;intro w5 bA));have EL:=HE.size;have HA:Hid (C9 B g wn.heap.size (d'+1) (2+(r2:Int)) w w5 (.slice As m cs) ls (.slice none 0 0) []):=aa ⟨(HE.below cZ.2.1).whole bA.2 EL,bA.1,Ow.nil _ _ _,fun e he=>by simp at he,EL⟩;clear cZ bA HE EL;refine(dH B g 2 w5 HA.ex.dw z7 z7).mono ?_;rintro e3 w6 ⟨⟨_,rfl,r3,rfl,hr3⟩,bF,aO⟩;replace HA:=aa (HA.next bF aO);have V5:(r3:Int)<2:=z7;clear bF aO;go_wp2_with fail;go_loopw [11] (fun i wr=>Bx (∃(k:Nat) (v:Value) (l:List EX),i= .int .i64 (k:Int)∧k≤2+r3∧l.length=k∧C9 B g wn.heap.size (d'+1) (2+(r2:Int)) w wr (.slice As m cs) ls v l)) (fun i _=>2+r3-(intOf i).toNat);case atStart=>exact⟨⟨0,_,[],rfl,z7,rfl,HA.out⟩⟩
 case round=>
  clear HA;obtain⟨⟨k,v,l,rfl,jF,jo,hA⟩⟩:=hrel;have HA:=aa hA;have cO:=ag jo (show l.length≤3 from z7);clear hA jo;by_cases hlt:k<2+r3
  ·have dY:(k:Int)<2+(r3:Int):=z7;go_wp2_with fail;have hsz:=HA.ex.size;refine(hih wr HA.ex.dw (HA.ex.sg.weaken ax z7 fun q hq _=>⟨z7,hq.2⟩)).mono ?_;rintro e3 w3 ⟨⟨_,rfl,ct,e,rfl,hx,fV,fF⟩,bF,aO⟩;have eB:=ag HA.size (fun q (hq:v.ownBlock=some q)=>(HA.ow.lt q hq).2);replace HA:=aa (HA.next bF aO);have HX:=ag hx (ai fV fF);obtain⟨op,kd,nm,vs,kids,A1,n1,c1,A2,n2,c2,rfl,rfl,_⟩:=mq hx;have vG:=aa aO.size;clear hx fV fF bF aO hsz;go_upto_region 21 with(first|(refine eD 90 rfl lI ?_;intro w4 cZ)|(refine bu 90 rfl w3.heap.size rfl rfl cZ.1 bf ?_;intro w7 bA));obtain⟨A,c,rfl,dx,dC⟩:=HA.ow.open_;have EA:Below w3.heap.size w3 w7:=cZ.2.1.grown bA.2 cZ.2.1.size (fun q hq=>zi);have HOW:=aa ((HA.ow.weaken (az (d'+1)) (bS:=fun q=>wn.heap.size+1≤q∧q≠w3.heap.size) (fun q hq hl=>⟨hq,z7⟩)).below (az (d'+1)) EA);replace HA:=aa (HA.below EA);have hx7:eT d' w7 (fun q=>wr.heap.size≤q∧q≠w3.heap.size) [.int .i64 op,.string ⟨kd.toArray⟩,.string ⟨nm.toArray⟩,.slice A1 n1 c1,.slice A2 n2 c2] (.mk op kd nm vs kids):=(az d').keep ((az d').weaken HX.1 fun q hq hl=>⟨hq,z7⟩) (fun q _ hl=>EA.block q hl);have HX7:=aa hx7;have XL:Hid (w3.heap.size<w7.heap.size):=bA.1.lt;clear EA hx7;obtain⟨k0,k1,k2,k3,k4⟩:=bA.1.c5;cases qo:(op==2+(r2:Int))
   ·go_upto_region 23 with fail;clear k0 k1 k2 k3 k4;have HK:=aa bA.1;replace HX:=aa (ky (Nat.le_succ d') ((az d').weaken (bS:=fun q=>wr.heap.size≤q) HX7.out fun q hq _=>hq.1) HX.2.1 HX.2.2);have uq:=aa ((HA).out.ow.alloc (az (d'+1)) (.cells #[.int .i64 op,.string ⟨kd.toArray⟩,.string ⟨nm.toArray⟩,.slice A1 n1 c1,.slice A2 n2 c2] 90));have aK:=aa (Sl.made (w:=w7) (av:=fun _=>True) [.int .i64 op,.string ⟨kd.toArray⟩,.string ⟨nm.toArray⟩,.slice A1 n1 c1,.slice A2 n2 c2] 90 (size:=5) rfl trivial);have aH:=aa ((Below.refl (w7).heap.size w7).alloc ae (.cells #[.int .i64 op,.string ⟨kd.toArray⟩,.string ⟨nm.toArray⟩,.slice A1 n1 c1,.slice A2 n2 c2] 90));obtain⟨f0,f1,f2,f3,f4⟩:=HA.b9.c5;obtain⟨k0,k1,k2,k3,k4⟩:=HK.c5;go_upto_region 19 with(first|(at_builtin;refine aU rfl (.tmp 78) (.tmp 80) _ rfl (wn.heap.size+1) 90 i0 _ 5 88 underlying88 fu hz eZ dA rfl z7 (az (d'+1)) (.slice A l.length c) l rfl uq.out [[.int .i64 op,.string ⟨kd.toArray⟩,.string ⟨nm.toArray⟩,.slice A1 n1 c1,.slice A2 n2 c2]] [(.mk op kd nm vs kids)] _ _ rfl aK.out rfl zd zq zn zr z7 (af HA.size aH.size) ?_;intro v8 w9 bN aM _;have aF:=ag bN aM;clear f0 f1 f2 f3 f4 k0 k1 k2 k3 k4 bN aM;obtain⟨A8,c8,rfl,_,_⟩:=aF.1.open_;have dW:=aa ((HA.b9.below' aH.out).grown aF.2 (fun e=>z2c));obtain⟨f0,f1,f2,f3,f4⟩:=dW.c5;have q4:=dW.frozen 4;have nM:=aa (aF.1.lt)));have Rw:=aa ((HA.ex.below aH.out).row aF.2 (fun q hq=>z1P));generalize hL:(l++[(.mk op kd nm vs kids)])=l9 at*;exact z9c
   ·go_upto_region 23 with(refine ru 90 _ _ rfl w3.heap.size _ rfl rfl 90 _ (bA.1.below' ((Below.refl w7.heap.size w7).alloc ae _)) bf rfl rfl rfl z4W ?_;intro w8 dP bq;have dL:=ag dP bq;clear dP bq);clear k0 k1 k2 k3 k4;have HK:=aa dL.1;have bU:=(Below.refl w7.heap.size w7).alloc ae (.cells #[.int .i64 op,.string ⟨kd.toArray⟩,.string ⟨nm.toArray⟩,.slice A1 n1 c1,.slice A2 n2 c2] 90);have hL1:=Ls.one (size:=5) (az d') [.int .i64 op,.string ⟨kd.toArray⟩,.string ⟨nm.toArray⟩,.slice A1 n1 c1,.slice A2 n2 c2] (.mk op kd nm vs kids) 90 rfl HX7.out z4B;replace HX:=aa (show eT (d'+1) w8 (fun q=>wr.heap.size≤q) [.int .i64 4,.string ⟨#[]⟩,.string ⟨#[]⟩,.slice none 0 0,.slice (some ⟨w7.heap.size,0,none⟩) 1 1] (.mk 4 [] [] [] [.mk op kd nm vs kids])∧Ee (d'+1) (.mk 4 [] [] [] [.mk op kd nm vs kids])∧mW (d'+1) (.mk 4 [] [] [] [.mk op kd nm vs kids]) from⟨⟨_,_,rfl,Ls.nil _ _,(hL1.grown (az d') dL.2 (fun q hq=>zi)).weaken (az d') z7 (fun q hq _=>hq.1),show df 4 from⟨z7,z7⟩,zl,zl⟩,⟨fun _=>zd,fun y hy=>z5n⟩,zd,fun y hy=>z5o⟩)
    replace HA:=aa (show C9 B g wn.heap.size (d'+1) (2+(r2:Int)) w w8 (.slice As m cs) ls (.slice A l.length c) l from by
      have h3:=HA.size
      have h7:=XL.out
      have h8:=vG.out
      have h9:=eB.1
      have hN:=HA.wN
      exact⟨(HA.ex.below bU).whole dL.2 z7,(HA.b9.below' bU).grown dL.2 ze,(HOW.below (az (d'+1)) bU).grown (az (d'+1)) dL.2 (fun q hq=>z2h)|>.weaken (az (d'+1)) (fun q hq _=>hq.1),HA.al,hN⟩)
    clear bU hL1;have uq:=aa ((HA).out.ow.alloc (az (d'+1)) (.cells #[.int .i64 4,.string ⟨#[]⟩,.string ⟨#[]⟩,.slice none 0 0,.slice (some ⟨w7.heap.size,0,none⟩) 1 1] 90));have aK:=aa (Sl.made (w:=w8) (av:=fun _=>True) [.int .i64 4,.string ⟨#[]⟩,.string ⟨#[]⟩,.slice none 0 0,.slice (some ⟨w7.heap.size,0,none⟩) 1 1] 90 (size:=5) rfl trivial);have aH:=aa ((Below.refl (w8).heap.size w8).alloc ae (.cells #[.int .i64 4,.string ⟨#[]⟩,.string ⟨#[]⟩,.slice none 0 0,.slice (some ⟨w7.heap.size,0,none⟩) 1 1] 90));obtain⟨f0,f1,f2,f3,f4⟩:=HA.b9.c5;obtain⟨k0,k1,k2,k3,k4⟩:=HK.c5;go_upto_region 19 with(first|(at_builtin;refine aU rfl (.tmp 78) (.tmp 80) _ rfl (wn.heap.size+1) 90 i0 _ 5 88 underlying88 fu hz eZ dA rfl z7 (az (d'+1)) (.slice A l.length c) l rfl uq.out [[.int .i64 4,.string ⟨#[]⟩,.string ⟨#[]⟩,.slice none 0 0,.slice (some ⟨w7.heap.size,0,none⟩) 1 1]] [(.mk 4 [] [] [] [.mk op kd nm vs kids])] _ _ rfl aK.out rfl zd zq zn zr z7 (af HA.size aH.size) ?_;intro v8 w9 bN aM _;have aF:=ag bN aM;clear f0 f1 f2 f3 f4 k0 k1 k2 k3 k4 bN aM;obtain⟨A8,c8,rfl,_,_⟩:=aF.1.open_;have dW:=aa ((HA.b9.below' aH.out).grown aF.2 (fun e=>z2c));obtain⟨f0,f1,f2,f3,f4⟩:=dW.c5;have q4:=dW.frozen 4;have nM:=aa (aF.1.lt)));have Rw:=aa ((HA.ex.below aH.out).row aF.2 (fun q hq=>z1P));generalize hL:(l++[(.mk 4 [] [] [] [.mk op kd nm vs kids])])=l9 at*;exact z9c
  ·have dY:¬(k:Int)<2+(r3:Int):=z7;obtain⟨A,c,rfl,dx,dC⟩:=HA.ow.open_;have HE:=aa HA.ex;obtain⟨f0,f1,f2,f3,f4⟩:=HA.b9.c5;exact zaY (zt 2)):P:=h
theorem z5O (h:P:=by have uk:=HN;obtain⟨d0,d1,d2⟩:=HE.b5.c3;go_wp2_with fail;clear d0 d1 d2;refine(dH B g 4 w7 HE.dw z7 z7).mono ?_;rintro e8 w8 ⟨⟨_,rfl,r2,rfl,rD⟩,nJ,aM⟩;replace HE:=aa (HE.next HN.out nJ aM);have Pj:(r2:Int)<4:=z7;clear nJ aM;obtain⟨f0,f1,f2,f3,f4⟩:=HE.b6.c5;have q0:=HE.b6.frozen 0;go_upto_region 32 with fail;clear f0 f1 f2 f3 f4 q0;replace HE:=aa (HE.wo HN.out (12+(r2:Int)));generalize (w8).setCell ⟨w4.heap.size,0,none⟩ (.int .i64 (12+(r2:Int)))=wt at*;obtain⟨d0,d1,d2⟩:=HE.b5.c3;go_wp2_with fail;clear d0 d1 d2;refine(ry B g dd.kg wt HE.dw Fp.out).mono ?_;exact za8 (zt 1)):P:=h
theorem z5P (h:P:=by
 have HA:Hid (vJ prog w2 (fun _=>True) (eT lvl) 236 #[.pointer (some ⟨w.heap.size,0,none⟩)] (fun y=>uw lvl y (.mk op kind name vals kids)) l):=aa fun W cy y hW _ hR=>Rj lvl lvl (fun _=>True) av w.heap.size _ cy (.mk op kind name vals kids) y W (bJ.1.below' hW) ((az lvl).keep Ld.out fun q _ hq=>hW.block q hq) hR;have nM:=aa (bW.out.ls (az lvl) (bS:=fun _=>True) z7 (by have:=HC.out;omega) (fun _ _ _=>trivial) (fun _ _=>trivial));go_wp2_with fail;refine(Re lvl (fun _=>True) _ l _ #[.pointer (some ⟨w.heap.size,0,none⟩)] (fun y=>uw lvl y (.mk op kind name vals kids)) w2 nM.out HA.out aaA).mono ?_;rintro e3 w3 ⟨rfl,bY⟩;have di:=ag bY (bt bJ.2.1 bY);generalize Wz:(l.any fun y=>uw lvl y (.mk op kind name vals kids))=bb at*;have asC:=aa Wz;have p8:=aa (bW.below (az lvl) bY);clear Wz bY d0 d1 d2 d3 d4 HA nM;obtain⟨d0,d1,d2,d3,d4⟩:=ah.c5 (bJ.1.below' di.1);cases bb
 ·have HG:Hid (gI (d+1) l (.mk op kind name vals kids)=kids.foldl (gI d) (l++[.mk op kind name vals kids])):=aa z2T;have Em:=aa (p8.alloc (az lvl) (.cells #[.int .i64 op,.string ⟨kind.toArray⟩,.string ⟨name.toArray⟩,.slice A1 nv c1,.slice A2 nk c2] 90));have aK:=aa (Sl.made (w:=w3) (av:=fun _=>True) [.int .i64 op,.string ⟨kind.toArray⟩,.string ⟨name.toArray⟩,.slice A1 nv c1,.slice A2 nk c2] 90 (size:=5) rfl trivial);have aH:=aa ((Below.refl w3.heap.size w3).alloc ae (.cells #[.int .i64 op,.string ⟨kind.toArray⟩,.string ⟨name.toArray⟩,.slice A1 nv c1,.slice A2 nk c2] 90));have HXA:=aa ((az lvl).keep Ld.out fun q _ hq=>(bt di.1 aH.out).block q hq);have uI:=aa (fun q (hq:(Value.slice A l.length c).ownBlock=some q)=>(p8.lt q hq).1);go_upto_region 3 with(at_builtin;go_loud(refine aU rfl (.tmp 21) (.tmp 23) _ rfl base 90 i0 _ 5 88 underlying88 fu hz eZ dA rfl z7 (az lvl) (.slice A l.length c) l rfl Em.out [[.int .i64 op,.string ⟨kind.toArray⟩,.string ⟨name.toArray⟩,.slice A1 nv c1,.slice A2 nk c2]] [.mk op kind name vals kids] _ _ rfl aK.out rfl zd zq z16 (by have:=HC.out;simp;omega) z7 (af pF.out (af di.2.size aH.size)) ?_);intro v8 w9 bN aM _;have aF:=ag bN aM;clear bN aM;obtain⟨A8,c8,gX,_,_⟩:=aF.1.open_;rw[List.length_append] at gX;change v8= .slice A8 (l.length+1) c8 at gX;subst gX)
  have C8:=aa (show Below base w w9∧w.heap.size≤w9.heap.size∧w9.heap[w.heap.size]? =w3.heap[w.heap.size]? from by
    have h1:w.heap.size<w3.heap.size:=(bJ.1.below' di.1).lt
    exact⟨((bt di.2 aH.out).mono pF.out).grown aF.2 (af pF.out (af di.2.size aH.size)) (fun q hq=>uI.out q hq),af di.2.size (af aH.size aF.2.size),(aF.2.block w.heap.size (Nat.lt_of_lt_of_le h1 aH.size) (fun e=>by have:=(HO.lt _ e.symm).2;omega)).trans (aH.block _ h1)⟩)
  have rP:=aa (show AtR d base av (l++[EX.mk op kind name vals kids]) kids 0 w w9 (.slice A8 (l.length+1) c8) from⟨aF.1,C8.1,C8.2.1⟩);have qw:=aa (Ec (d:=d) (L:=l++[.mk op kind name vals kids]) Fx.out (show(l++[EX.mk op kind name vals kids]).length+4*dB d≤900000 from z2D));have eu:ah w9 w.heap.size 90 #[.int .i64 op,.string ⟨kind.toArray⟩,.string ⟨name.toArray⟩,.slice A1 nv c1,.slice A2 nk c2]:=C8.2.2.trans (bJ.1.below' di.1);clear d0 d1 d2 d3 d4 Em aK aH aF;obtain⟨d0,d1,d2,d3,d4⟩:=eu.c5;clear eu;go_wp2_with fail;go_loopw [0,28] (fun vo i wr=>Bx (∃(k:Nat) (v':Value),i= .int .i64 (k:Int)∧vo=v'∧k≤nk∧AtR d base av (l++[EX.mk op kind name vals kids]) kids k w wr v')) (fun _ i _=>nk-(intOf i).toNat);case atStart=>exact⟨⟨0,_,rfl,rfl,z7,rP.out⟩⟩
  case round=>
   obtain⟨⟨k,v',rfl,rfl,hk,hR⟩⟩:=hrel;have HR:=aa hR;clear hR;by_cases hlt:k<nk
   ·exact zbo (zt 1)
   ·exact z9U
 ·have HG:Hid (gI (d+1) l (.mk op kind name vals kids)=kids.foldl (gI d) l):=aa z2T;have rP:=aa (show AtR d base av l kids 0 w w3 (.slice A l.length c) from⟨p8.out,di.2.mono pF.out,di.2.size⟩);exact z90):P:=h
theorem z5Q (h:P:=by
 rintro e7 w7 ⟨⟨_,rfl,y,rfl,hy⟩,rJ,lC⟩;replace HS:=aa (HS.next HD.lt rJ lC);clear rJ lC;have VV:(y:Int)<(n:Int):=z7;cases qv:(1+(y:Int)==lv)
 ·exact z92
 ·have EW:1+(y:Int)=lv:=z5a
  have iH:1<n:=by
   rcases HS.la with⟨_,h0⟩|⟨h1,_⟩
   ·omega
   ·exact h1
  obtain⟨o1,o2,o3⟩:=NH (n:=(n:Int)) (v:=1+(y:Int)) z7 z7 z7;have uG:Hid (1≤1+(1+(y:Int))%(n:Int)∧1+(1+(y:Int))%(n:Int)≤(n:Int)∧∀s,l[l.length-1]? =some s→1+(1+(y:Int))%(n:Int)≠s.var):=aa ⟨o2,o3,HS.sep z41⟩;have HI:Hid (df at_∧df 10000∧df (1+(1+(y:Int))%(n:Int))):=aa ⟨⟨z26,z27⟩,⟨z7,z7⟩,⟨z7,z7⟩⟩;have hnz:¬(n:Int)=0:=z7;have V7:¬n=0:=z7;have Ov:0≤(1+(y:Int))%(n:Int):=z7;have BZ:(1+(y:Int))%(n:Int)≤65536:=z7;clear o1 o2 o3 EW;have bW:=aa (HS.ow.alloc aT (.cells #[.int .i64 at_,.int .i64 10000,.int .i64 (1+(1+(y:Int))%(n:Int))] 71));have aK:=aa (Sl.made (w:=w7) (av:=fun _=>True) [.int .i64 at_,.int .i64 10000,.int .i64 (1+(1+(y:Int))%(n:Int))] 71 (size:=3) rfl trivial);have aH:=aa ((Below.refl (w7).heap.size w7).alloc ae (.cells #[.int .i64 at_,.int .i64 10000,.int .i64 (1+(1+(y:Int))%(n:Int))] 71));go_wp2_with(at_builtin;refine aU rfl (.tmp 60) (.tmp 64) _ rfl w.heap.size 71 i0 _ 3 24 underlying42 fu hz eZ dA rfl z7 aT _ _ rfl bW.out [[.int .i64 at_,.int .i64 10000,.int .i64 (1+(1+(y:Int))%(n:Int))]] [⟨at_,10000,(1+(1+(y:Int))%(n:Int))⟩] _ _ rfl aK.out rfl zd zg zm zo z7 (af HS.gr.size aH.size) ?_;intro v8 w8 bN aM _;have aF:=ag bN aM;clear bN aM);exact zbu (zt 1)):P:=h
theorem z5R (h:P:=by
 clear HN GH;obtain⟨k,Ao,At,no,co,nt,ct,lo',lt',rfl,rfl,rfl,hk,Jg,hN,gP,bK⟩:=hrel;have lU:=ag gP (ai bK Jg);have HN:=aa hN;by_cases hlt:k<l.length
 ·obtain⟨ad,cs,had,aY,aI,hR,hcell⟩:=HV.cB pR hlt;subst had;obtain⟨hcs,fA,gM⟩:=hR _ aj;subst hcs;have vI:=aa (fun(W:World) (hW:Below w.heap.size w W)=>xJ (hcell W hW));have XC:=aa (List.getElem_mem hlt);generalize l[k]'hlt=y at vI fA gM XC;simp only[sv] at vI;have El:=aa gM;obtain⟨e0,e1⟩:=vI.out _ hN.lo;have fq:(k:Int)<(l.length:Int):=z7;clear hcell hR aI gP bK hN fA gM Jg;cases q1:(y.1==nn)
  ·go_wp2_with fail;exact z9o
  ·cases q2:lo'.contains y.2;all_goals have rQ:=aa q2
   all_goals
     go_wp2_with(first|(go_at_call 102;refine(abj _ _ lo' y.2 _ HN.out.out).mono ?_;rintro e3 w3 ⟨rfl,hb⟩;replace HN:=aa (HN.below hb);clear e0 e1 hb;obtain⟨e0,e1⟩:=vI.out _ HN.lo;rw[q2])|(go_at_call 144;refine(NQ _ _ lo' y.2 _ HN.out.out El.out z3X).mono ?_;rintro e4 w4 ⟨⟨v4,l4,rfl,iA,QI,mU⟩,hb⟩;have iI:=aa (OJ.mk (w:=w) (wr:=w4) (out:=v4) (todo:= .slice At nt ct) (lo:=l4) (lt:=lt') (iA.weaken ax z7 (fun q hq _=>hq.elim id (fun h=>af HN.lo.size h))) (HN.todo.below ax hb) (bt HN.lo hb));have Iq:=ag QI mU;clear e0 e1 hb iA QI mU;obtain⟨e0,e1⟩:=vI.out _ iI.lo))
   rotate_left
   ·exact z9o
   replace iI:=aa (iI.below (Below.refl w4.heap.size w4).drew);clear e0 e1;obtain⟨e0,e1⟩:=vI.out _ iI.lo;refine aJ (.fork [[.calm 0 false,.calm 2 false,.calm 3 false,.calm 4 false,.calm 5 false,.calm 6 false]] 1 (some 7) false (.path [[.aB 7 none false],[.aB 8 none false],[.calm 9 false]]) 7 none false (.path [[.aB 1 none false],[.aB 8 none false],[.calm 9 false]])) (some 7) za za za ?_;show aA _ _ _ _ _ _ _ _ _;refine cmBa6 ?_;clear e0 e1;generalize w4.drew=qy at iI⊢;have CU:=aa iI.out;obtain⟨wq,fO⟩:∃z,z=qy:=⟨_,rfl⟩;have dM:Hid (Below qy.heap.size qy wq):=aa z2o;rw[←fO] at iI;rw[←fO];clear fO;have qG:Hid (lt'.length≤200000):=aa z3p;refine au ?_;refine⟨?_,?_⟩;rotate_left;next=>exact zaG (zt 0)
   refine aZ [_] fun K hK=>?_;exact zbk (zt 1)
 ·obtain rfl:k=l.length:=z7;have HGG:=HG;clear gP bK hN;go_wp2_with fail;go_roundg (lt'.length+DR l lo');case measure=>have h1:=lU.out;have h2:=HG.out;omega
  case rel=>exact⟨Ao,At,no,co,nt,ct,lo',lt',rfl,rfl,lU.2.2,HN.out,Nat.le_refl _,lU.2.1,z3Y⟩):P:=h
theorem z5S (h:P:=by exact zaX (zt 2)):P:=h
theorem z5T (h:P:=by go_wp2_with fail;refine(Dv B g w2 HE.dw).mono ?_;rintro e3 w3 ⟨⟨_,rfl,ct,e,rfl,hx,fV,fF⟩,bF,aO⟩;have eB:=aa HE.size;replace HE:=aa (HE.next bF aO);have HX:=ag hx (ai fV fF);obtain⟨op,k,nm,vs,kids,A1,n1,c1,A2,n2,c2,rfl,rfl,_⟩:=mq hx;clear hx fV fF bF aO;exact zaY (zt 7)):P:=h
theorem z5U (h:P:=by have uk:=HN;obtain⟨d0,d1,d2⟩:=HE.b5.c3;obtain⟨f0,f1,f2,f3,f4⟩:=HE.b6.c5;have q0:=HE.b6.frozen 0;go_upto_region 35 with fail;clear f0 f1 f2 f3 f4 q0 d0 d1 d2;replace HE:=aa (HE.wo HN.out 7);generalize (w7).setCell ⟨w4.heap.size,0,none⟩ (.int .i64 7)=wt at*;obtain⟨d0,d1,d2⟩:=HE.b5.c3;go_wp2_with fail;clear d0 d1 d2;refine(ry B g dd.kg wt HE.dw Fp.out).mono ?_;exact za8 (zt 2)):P:=h
theorem z5V (h:P:=by
 clear hK K;have Gn:=HQ.1.grown aF.2.1 (fun e=>z1h);refine aW [_] fun K hK=>?_;go_wp2_with(refine sK rfl (.tmp 42) (.tmp 44) (.tmp 52) 260 rfl 9 58 jY underlying260 bn f rfl Gn (.string ⟨yf.toArray⟩) v8 _ rfl rfl EG.out ?_;intro jg xz nO;have mH:=ag xz nO;clear xz nO);refine ay.go hK ?_;clear hK K;refine au ?_;have fV:=ig.out;have hsz:fU.heap.size≤wq.heap.size:=HQ.2.2.size;have ed:=uo.gs;have AJ:Below bn fU jU:=(HQ.2.2.mono z7).grown aF.2.1 z7 (fun q hq=>z1H);have uZ:Below bn fU jg:=AJ.grown mH.2 z3c (fun q hq=>zi);have Ce:jg.cell? ⟨gn,0,none⟩=some (.map (some bn)):=(World.cell?_of_block (mH.2.block gn (Nat.lt_of_lt_of_le (show gn<wq.heap.size from z7) aF.2.1.size) ze)).trans ((World.cell?_of_block (aF.2.1.block gn z2p (fun e=>z1v))).trans (cell_below uo.bx HQ.2.2))
 have Cy:=aa (show Uf w w4 jg bn gn (es.take (k+1)) (.slice A2 cn c2) sl from⟨by
   rw[jf.out]
   exact Eg.step sD.1 sD.2.1 sD.2.2.1 sD.2.2.2.1 sD.2.2.2.2 HQ.2.2 z2S z3l (fun q hq=>by
     rcases aF.2.2 with h|h
     · left;rw[sF.out,←h];exact hq
     · right;rw[h] at hq;injection hq with hq;omega) mH.1 mH.2,Ce,uo.lf.dV ax uZ (fun _ h=>h.elim) cZ.2,uo.lo.trans uZ,Nat.lt_of_lt_of_le ed uZ.size⟩)
 clear Gn fV hsz ed AJ uZ Ce aF mH aK HQ sD;go_wp2_with fail;go_roundw
 case rel=>exact⟨⟨k+1,zd,z7,Cy.out,fun j h hj=>by
  rcases vH.out j h hj with h3|h3
  ·exact KG.out j h h3
  ·rw[h3];show(sl.contains yf&&sl.contains yt)=true;rw[bJ.out,bV.out];rfl⟩⟩
 case measure=>exact z9L):P:=h
theorem z5W (h:P:=by
 go_wp2_with fail;go_loopw [7] (fun _ wr=>Bx (∃k:Nat,wr=w1.iter d k∧k≤d.size∧∀j (hj:j<d.size),j<k→48≤(d[j]'hj).toNat∧(d[j]'hj).toNat≤57)) (fun _ wr=>d.size-wr.iterPos w1.heap.size);case atStart=>exact⟨⟨0,rfl,z7,fun j _ h=>z7⟩⟩
 case round=>
  obtain⟨⟨k,rfl,hk,mG⟩⟩:=hrel;have HA:=aa mG;have HB:=aa (BR w1 d);clear mG;by_cases hlt:k<d.size
  ·by_cases Kr:(d[k]'hlt).toNat<128
   ·have wK:=fun ty=>run_next_ascii (P:=prog) w1 d k ty hlt Kr;have kZ:=aa (Ii hlt)
    have vH:=aa (show ∀j (hj:j<d.size),j<k+1→j<k∨(d[j]'hj).toNat=(d[k]'hlt).toNat from fun j hj h=>by
      rcases Nat.lt_or_ge j k with h1|h1
      · exact .inl h1
      · obtain rfl:j=k:=by omega
        exact .inr rfl)
    clear Kr;generalize (d[k]'hlt).toNat=b at wK kZ vH;by_cases h48:(b:Int)<48
    ·have HX:=aa (show b<48 from z7);go_wp2_with fail;go_ret2;exact⟨.inr ⟨z32,_,zL,rfl⟩,HB.out _⟩
    ·by_cases h57:(57:Int)<(b:Int)
     ·have HX:=aa (show 57<b from z7);go_wp2_with fail;go_ret2;exact⟨.inr ⟨z33,_,zL,rfl⟩,HB.out _⟩
     ·have HX:=aa (show 48≤b∧b≤57 from z7);go_wp2_with fail;go_roundw
      case rel=>exact⟨⟨k+1,rfl,hlt,fun j hj h=>by
       rcases vH.out j hj h with h|h
       ·exact HA.out j hj h
       ·rw[h];exact HX.out⟩⟩
      case measure=>exact z9J
   ·have kZ:=aa (Ii hlt (.inr z7));have wK:=fun ty=>run_next_any (P:=prog) w1 d k ty hlt;have Jj:=(decode_high d k hlt z7).1;obtain⟨r,wd,hd⟩:∃r wd,Utf8.decode d k=(r,wd):=⟨_,_,rfl⟩;rw[hd] at wK Jj;simp only at wK Jj;have h48:¬(r:Int)<48:=z7;have h57:(57:Int)<(r:Int):=z7;clear hd Kr;go_wp2_with fail;go_ret2;exact⟨.inr ⟨z3v,_,zL,rfl⟩,HB.out _⟩
  ·have wK:=fun ty=>run_next_end (P:=prog) w1 d k ty hlt;have HD:=aa (Xb (d:=d) fun j hj=>HA.out j hj z7);have dJ:=HB.out k;have HT1:=aa (HT.below dJ)
   have jM:Hid (Me s.data.toList=match Lib.atoiAll s.data.toList with
     | .ok v=>if v< -1099511627776∨1099511627776<v then none else some v
     | _=>none):=aa z4d
   clear HC HD HA;go_wp2_with fail;have sW:=HS.out;cases ha:Lib.atoiAll s.data.toList with
   |ok v=>
    rw[ha] at jM;refine(Go.Proofs.Tryz.strconv_Atoi_ok s z7 v ha _).mono ?_;rintro e2 w2 ⟨rfl,VW⟩
    have bQ:Below (w1.iter d k).heap.size (w1.iter d k) w2:=by
     rcases VW with rfl|⟨t,rfl⟩
     ·exact Below.refl _ _
     ·exact Lib.bytesWorld_below _ _ _
    have aS:=aa (bt dJ bQ);clear VW bQ dJ sW ha;by_cases hl:v< -1099511627776
    ·go_wp2_with fail;go_ret2;exact⟨.inr ⟨z4N,_,zL,rfl⟩,aS.out⟩
    ·by_cases hh:1099511627776<v
     ·go_wp2_with fail;go_ret2;exact⟨.inr ⟨z4O,_,zL,rfl⟩,aS.out⟩
     ·go_wp2_with fail;go_ret2;exact⟨.inl ⟨v,by rw[jM.out];exact if_neg z7,rfl⟩,aS.out⟩
   |range=>rw[ha] at jM;obtain⟨ev,hv,MC⟩:=HT1.er;refine(Go.Proofs.Tryz.strconv_Atoi_range s sW ha ev _ hv MC).mono ?_;exact z9r
   |_=>rw[ha] at jM;obtain⟨ev,hv,MC⟩:=HT1.es;refine(Go.Proofs.Tryz.strconv_Atoi_syntax s sW ha ev _ hv MC).mono ?_;exact z9r):P:=h
theorem z5X (h:P:=by exact zaX (zt 0)):P:=h
theorem z5Y (h:P:=by refine lF.mono ?_;rintro e w1 ⟨rfl,dJ⟩;have fZ:=bt hB dJ;clear lF hl hR dJ hB;exact z9i):P:=h
theorem z5Z (h:P:=by obtain⟨wq,rfl⟩:∃z,z=wz:=⟨_,rfl⟩;exact zcy (zt 1)):P:=h
theorem z60 (h:P:=by exact zay (zt 0)):P:=h
theorem z61 (h:P:=by have HX:Hid (gL bB v s fo key=some (f.exp,f.arm)):=aa z2g;obtain⟨q0,q1,q2⟩:=Xw.c3;letI:mE:=gx (some w7.heap.size);go_upto_region 12 with fail;have hne:=GG.out;refine aJ (.path [[.calm 0 false],[.calm 1 true,.calm 2 false],[.calm 3 true,.calm 4 false],[.aB 5 (some 7) false],[.calm 6 false],[.aB 7 none false]]) (some 7) za za za ?_;show aA _ _ _ _ _ _ _ _ _;have mZ:=aa (uq.below' kz.1);have HQ:=aa (show Below w4.heap.size w4 wI.drew∧Below w.heap.size w wI.drew∧ah wI.drew w7.heap.size 192 _∧ah wI.drew wF.heap.size 142 #[.string ⟨f.layer.toArray⟩,.string ⟨f.exp.toArray⟩,.int .i64 f.arm] from⟨kz.2.1.drew,kz.2.2.drew,mZ.out,Xw.out⟩);clear mZ Xw kz jH q0 q1 q2;generalize fO:wI.drew=wq at*;obtain⟨q0,q1,q2⟩:=HQ.2.2.2.c3;obtain⟨a0,a1,a2,a3,a4⟩:=HQ.2.2.1.c5;have z1:=HQ.2.2.1.frozen 1;exact zah (zt 8)):P:=h
theorem z62 (h:P:=by
 cases fT:(x.kind==3)<;>cases bT:(y.kind==3)
 all_goals
   go_wp2_with fail
   refine(Co (fun _=>True) av [.int .i64 x.kind,.int .i64 x.num,.string ⟨x.text.toArray⟩,.slice A3 n3 c3] [.int .i64 y.kind,.int .i64 y.num,.string ⟨y.text.toArray⟩,.slice Ay ny BC] x y w8 rY.1 rY.2 (HT.below dL.2.2)).mono ?_
   rintro e9 w9 ⟨rfl,eu⟩
   have dW:=aa (bt dL.2.2 eu)
   have XU:=aa (bt dL.2.1 eu)
   generalize jL x y=p at*
   obtain⟨pc,px⟩:=p
   clear eu x0 x1 x2 x3 y0 y1 y2 y3 d0 d1 d2 d3 d4
   obtain⟨d0,d1,d2,d3,d4⟩:=HC.out w9 XU.out
   by_cases BU:px=0
   · subst BU
     go_wp2_with fail
     go_ret
     rw[si.out,wU.out,pW.out]
     exact⟨zd,dW.out⟩
   · have hpb:(px !=0)=true:=by simp[BU]
     have Xy:=aa BU
     clear BU
     go_wp2_with fail
     go_ret
     rw[si.out,wU.out,pW.out]
     exact⟨z5C,dW.out⟩):P:=h
theorem z63 (h:P:=by
 go_wp2_with fail;refine(xm av v l w HV.out).mono ?_;rintro e1 w1 ⟨⟨g1,rfl,gP,fZ⟩,dJ⟩;have H1:=ag gP (ai fZ dJ);clear gP fZ dJ;go_wp2_with fail;refine(xm jd v2 l2 w1 (Vm tK.out H1.2.2)).mono ?_;rintro e2 w2 ⟨⟨g2,rfl,bK,oP⟩,bQ⟩;have H2:RB w w2 g1 g2:=⟨H1.2.1.below' bQ,oP,H1.1,z3N,bt H1.2.2 bQ⟩;replace H2:=aa H2;clear bK oP bQ H1;go_wp2_with fail;go_loopw [7] (fun i wr=>∃k:Nat,i= .int .i64 (k:Int)∧k≤10000∧RB w wr g1 g2) (fun i _=>10000-(intOf i).toNat);case atStart=>exact⟨0,rfl,z7,H2.out⟩
 case round=>
  clear H2;obtain⟨k,rfl,hk,hO⟩:=hrel;have HO:=aa hO;clear hO;by_cases hlt:k<10000
  ·obtain⟨b1,c1⟩:=HO.a.cell hlt;obtain⟨b2,c2⟩:=HO.b.cell hlt;have f1:=HO.a.frozen k;have dY:(k:Int)<10000:=z7;cases b1
   ·exact z9v
   ·exact z9v
  ·obtain rfl:k=10000:=z7;go_wp2_with fail;refine(yz g1 _ HO.a).mono ?_;intro e3 w3 h3;have h4:=h3.FB z7 bD HO.lo;exact z9l):P:=h
theorem z64 (h:P:=by
 have hb:=Old.below (h.1 yK);rw[yK] at h3;simp only[Bool.not_true,Bool.false_or] at h3;cases t' with
 |none=>cases h3
 |some t1=>
  have Jw:L.getD t1 false=false:=by
   simp only[Bool.or_eq_true,beq_iff_eq] at h3;rcases h3 with rfl|h3
   ·exact h0
   ·exact oI h3 xZ h0
  have vF:=hA.2 Jw;cases k with
  |true=>exact vF
  |false=>exact hb.trans vF):P:=h
theorem z65 (h:P:=by refine aW [_] fun K hK=>?_;go_wp2_with(refine bu 114 rfl ng rfl rfl HG.1 NA ?_;intro wz aG);refine ay.go hK ?_;clear hK K;refine au ?_;have HS:=aa (show Ff B g NE w3.heap.size wr.heap.size ng c0 c1 c2 c3 c5 c6 c7 w wz (.slice (some ak) n 3) kl (.slice A l.length c) l key [117,115,101,114] (.slice A1 n1 k1) (.slice A2 n2 k2) (.int .i64 0) (.string ⟨#[]⟩) (.string ⟨#[]⟩) (.slice none 0 0) (.slice none 0 0) l1 l2 (.mk 0 [] [] [] []) from⟨HI.whole aG.2 HG.2.1 HOW.1 HOW.2,aG.1,HOW.1.grown dG aG.2 (fun k hk=>z1l),HOW.2,fun k hk=>uP.out k hk,jc.1.grown ax aG.2 (fun k hk=>zx),yS.1.grown ax aG.2 (fun k hk=>zx),(xR z7 ⟨z7,z7⟩ _ _).1,(xR (op:=0) z7 ⟨z7,z7⟩ wz (fun _=>True)).2,Xp.out,zl,HG.2.1,Xo.out⟩);go_wp2_with fail;go_meet;case rel=>exact⟨⟨ng,key,_,_,l1,l2,rfl,HS.out⟩⟩):P:=h
theorem z66 (h:P:=by clear CB jN hsA;go_wp2_with(at_builtin;refine gF rfl _ _ rfl wr.heap.size _ [] rfl HO.out (l.take l.length) _ _ rfl gQ.out (fun x hx=>nZ.out x (List.mem_of_mem_take hx)) H6.out ae ?_;intro v1 w1 sZ gP _);exact zad (zt 0)):P:=h
theorem z67 (h:P:=by obtain⟨wq,rfl⟩:∃z,z=wz:=⟨_,rfl⟩;refine cmBa1 ?_;refine aW [_] fun K hK=>?_;go_wp2_with(refine aD rfl 147 (.tmp 16) (by rfl) _ (by rfl) ?_;intro wz hk hb hsz;have qg:=ag hk (ai hb hsz);clear hk hb hsz);refine ay.go hK ?_;clear hK K;refine cmBa1 ?_;refine au ?_;go_wp2_with fail;go_ret;exact FP HV.out HS.out HF.out HK.1 H8.out HT.out HB.out aK.out kE.out OW.out OT.out GJ.out qD.out mK.out Gy.out Gx.out qg.1 qg.2.1 qg.2.2):P:=h
theorem z68 (h:P:=by
 have HC:=aa hc;obtain⟨A,c,k,bs,hk,hle,hb⟩:=hc;have HK:=ag hk hb;obtain⟨A',c',hq,lL,xx⟩:=hb.open_;injection hq with Tt _ Tq;subst Tt;subst Tq;clear hk hb;go_enter func16,ntmps16;go_wp2_with fail;refine(VH g A bs.length c k w HK.1).mono ?_;rintro e1 w1 ⟨rfl,q,rfl⟩;by_cases hlt:k<bs.length
 ·have Hu:ah (w.drewN q) g 76 #[.slice A bs.length c,.int .i64 (k:Int)]:=HK.1;have c0:=Hu.cell 0;have c1:=Hu.cell 1;have f1:=Hu.frozen 1;simp only[List.getElem?_toArray,List.getElem?_cons_zero,List.getElem?_cons_succ] at c0 c1;have Oy:Bs (w.drewN q) (fun j=>j<g) (.slice A bs.length c) bs:=HK.2;obtain⟨ad,rfl,aY,hcell⟩:=Oy.at_ hlt;have cb:=hcell k hlt;have hne:ad.block≠g:=Nat.ne_of_lt aY;have bK:=aR (g:=g) (World.grownBy.refl (w.drewN q) (some g)) (p:=⟨g,1,none⟩) (.inl rfl) (.int .i64 ((k:Int)+1));have HN:=ag Hu (ai Oy bK);clear Hu hcell bK;have hbv:(bs[k]'hlt).toNat≤255:=z4H;generalize (bs[k]'hlt).toNat=bv at cb hbv;go_wp2_with fail;have dC:((w.drewN q).setCell ⟨g,1,none⟩ (.int .i64 ((k:Int)+1))).cell? (ad.add k)=some (.int .u8 (bv:Int)):=z2k;have bT:=HN.1.acN (.int .i64 ((k:Int)+1));have bQ:=HN.2.1.setCell (p:=⟨g,1,none⟩) zd (.int .i64 ((k:Int)+1));have aO:w.grownBy ((w.drewN q).setCell ⟨g,1,none⟩ (.int .i64 ((k:Int)+1))) (some g):=dO (xW w q (some g)) HN.2.2;have HM:=ag bT (ai bQ aO);clear bQ aO HN c0 c1 f1 cb Oy;generalize (w.drewN q).setCell ⟨g,1,none⟩ (.int .i64 ((k:Int)+1))=w2 at dC bT HM⊢;have c0:=bT.cell 0;have c1:=bT.cell 1;simp only[List.getElem?_toArray,List.getElem?_cons_zero,List.getElem?_cons_succ] at c0 c1;clear bT;have qV:¬(n:Int)=0:=z7;go_quiet(fail);go_wp2_with fail;go_ret;refine⟨⟨bv%n,?_,Nat.mod_lt _ z7⟩,⟨some ad,c,k+1,bs,?_,z7,?_⟩,J6 HM.2.2 _⟩
  ·show Ending.returned (.int .i64 ((bv:Int)%(n:Int)))= .returned (.int .i64 ((bv%n:Nat):Int));rw[Int.natCast_emod]
  ·exact HM.1.drewN _
  ·exact HM.2.1.drewN _
 ·go_wp2_with fail;go_ret;exact⟨⟨0,rfl,h1⟩,HC.out,xW _ _ _⟩):P:=h
theorem z69 (h:P:=by have uk:=HN;obtain⟨d0,d1,d2⟩:=HE.b5.c3;obtain⟨f0,f1,f2,f3,f4⟩:=HE.b6.c5;have q0:=HE.b6.frozen 0;go_upto_region 24 with fail;clear f0 f1 f2 f3 f4 q0;replace HE:=aa (HE.wo HN.out (11));generalize (w7).setCell ⟨w4.heap.size,0,none⟩ (.int .i64 (11))=wt at*;clear d0 d1 d2;go_wp2_with fail;refine(ry B g 3 wt HE.dw ⟨z7,z7⟩).mono ?_;exact za8 (zt 0)):P:=h
theorem z6a (h:P:=by
 go_loopw [0,5] (fun u i wr=>∃k:Nat,i= .int .i64 (k:Int)∧k≤n2∧RfR w w1 wr av (l.length+1+k*dB d) u) (fun _ i _=>n2-(intOf i).toNat);case atStart=>exact⟨0,rfl,z7,by simpa using HR⟩
 case round=>
  clear HB c0 c1 c2 c3 c4 HR;obtain⟨k,rfl,hk,hR⟩:=hrel;have HB:=aa hR.lo;obtain⟨l4,iA,mU⟩:=hR.tx;have tN:=aa iA;have iI:=aa mU;clear hR iA mU;obtain⟨c0,c1,c2,c3,c4⟩:=HC.out _ HB.out;by_cases hlt:k<n2
  ·exact zaI (zt 1)
  ·obtain rfl:k=n2:=z7;go_wp2_with fail;go_ret;refine⟨⟨_,l4,rfl,tN.out,?_⟩,bt HW.out HB.out⟩;have h1:=HX.1;have h2:=jM.out;have h3:k*dB d≤4*dB d:=Nat.mul_le_mul_right _ z7;have h4:dB (d+1)=1+4*dB d:=rfl;have h5:=iI.out;omega):P:=h
theorem z6b (h:P:=by go_wp2_with(refine bu 297 rfl w.heap.size rfl rfl HK.1 sQ ?_;intro w8 HZ);refine bodyPost_ret (rA rfl rfl rfl HZ.1) rfl ?_;rw[HW.out];exact⟨rfl,aC HK.2.2 HK.2.2.size HZ.2 ae⟩):P:=h
theorem z6c (h:P:=by exact zaS (zt 0)):P:=h
theorem z6d (h:P:=by have We:0<(m:Int):=z7;go_wp2_with fail;refine(dH B g m w2 HE.dw z7 z42).mono ?_;rintro e3 w3 ⟨⟨_,rfl,r2,rfl,rD⟩,bF,aO⟩;replace HE:=aa (HE.next bF aO);obtain⟨ad,c9,had,aY,aI,hR,hcell⟩:=HE.sg.cB ax (show r2<ls.length from z43);subst had;obtain⟨K5,EO⟩:=hR _ aj;subst K5;have e0:=cell0 (hcell _ aj) rfl;simp only[sv,Nat.mul_one] at e0;have HT:=aa EO;generalize ls[r2]'_=nm at e0 HT;have wE:(r2:Int)<(m:Int):=z7;clear hcell hR aI aY EO bF aO;exact zaY (zt 0)):P:=h
theorem z6e (h:P:=by
 refine cmBa1 ?_;obtain⟨f0,f1,f2,f3,f4⟩:=ah.c5 rQ.1;have q2:=rQ.1.frozen 2;refine cmBa1 ?_;refine au ?_;clear f0 f1 f2 f3 f4 q2
 have HF:Hid (ah (ws.setCell ⟨w4.heap.size,2,none⟩ (.string ⟨dd.name.toArray⟩)) w.heap.size 44 #[.int .i64 0,.string ⟨#[]⟩,.string ⟨#[]⟩,.string ⟨#[]⟩,.slice none 0 0]∧ah (ws.setCell ⟨w4.heap.size,2,none⟩ (.string ⟨dd.name.toArray⟩)) w4.heap.size 44 #[.int .i64 0,.string ⟨dd.kind.toArray⟩,.string ⟨dd.name.toArray⟩,.string ⟨s.toArray⟩,.slice As nl cs]∧w.grownBy (ws.setCell ⟨w4.heap.size,2,none⟩ (.string ⟨dd.name.toArray⟩)) (some g)∧Dw B g (ws.setCell ⟨w4.heap.size,2,none⟩ (.string ⟨dd.name.toArray⟩))∧Ls 3 oL (ws.setCell ⟨w4.heap.size,2,none⟩ (.string ⟨dd.name.toArray⟩)) (fun k=>w3.heap.size≤k∧k<w4.heap.size) (.slice As nl cs) ls):=aa (by
   have bK:wq.grownBy (ws.setCell ⟨w4.heap.size,2,none⟩ (.string ⟨dd.name.toArray⟩)) (some w4.heap.size):=aR rQ.2 (.inl rfl) _
   have hw4:=yh.2
   refine⟨HQ.1.grown bK z4c,rQ.1.bC 2 _,aP HQ.2.2.1 bK (Nat.le_of_lt ?_),HQ.2.2.2.1.whole bK wX.2 ae (Nat.le_of_lt iI.1),HQ.2.2.2.2.grown aT bK (fun k hk=>zx)⟩
   exact ams.out)
 generalize ws.setCell ⟨w4.heap.size,2,none⟩ (.string ⟨dd.name.toArray⟩)=wf at*;exact zcd (zt 0)):P:=h
theorem z6f (h:P:=by
 have wE:i∈Region.ready md ops V:=z5j;have hcs:=hc.set wE;have tF:(if kb then wf else w)=wf:=z9f;rw[tF] at hK;have ih:=yA hs hQ base r t kb (fuel-1) (V.setIfInBounds i true) (a.put o.dst v) wf w hO fQ hcs h8 hK;have hn:jT d (.calm i c::r)=jT d r:=rfl;rw[hn];have hne:jT d r≠some i:=by simpa using h6
 have Jg:t≠some i:=by simpa using h7
 obtain⟨n,rfl⟩:∃n,fuel=n+1:=⟨fuel-1,z7⟩;refine FU ho (Region.noSelect_spec hs) (fun c a w h=>absurd h (hQ c _ w)) (fun L W=>?_) n V a w hc (Region.free_spec ho h4) wE ?_ (IM _ _ hO _) ih
 ·unfold fP
  have e1:(match jT d r with|some e=>(L.setIfInBounds i true).getD e false=false→W=w|none=>True) ↔ (match jT d r with|some e=>L.getD e false=false→W=w|none=>True):=by
   cases hd:jT d r with
   |none=>exact Iff.rfl
   |some e=>have he:i≠e:=fun e1=>hne (by rw[hd,e1]);simp only[getD_set_ne false he]
  refine and_congr e1 ?_;exact z9w
 ·rw[Bool.or_eq_true,Bool.or_eq_true,ho] at h5;rcases h5 with(h5|h5)|h5
  ·exact hy _ (.inl h5)
  all_goals
    refine hy _ (.inr fun W hW=>?_)
    obtain⟨L,xZ,TC,hA,hT⟩:=hW
  ·cases hd:jT d r with
   |none=>rw[hd] at h5;cases h5
   |some e=>rw[hd] at h5 hA;rw[hA (oI h5 xZ TC)];exact Old.refl w
  ·exact z9s):P:=h
theorem z6g (h:P:=by
 simp only[nQ,Bool.and_eq_true,Bool.not_eq_true'] at hB;obtain⟨⟨⟨⟨rF,hS⟩,K8⟩,K7⟩,hB⟩:=hB;subst rF;obtain rfl:=fQ rfl;refine yA hs hQ (fun t' kb fuel V a wf w hO fQ hc hB h=>?_) s.flatten t false fuel V a wf wf (Old.refl _) (fun _=>rfl) hc hB (gD s t false wf a wf (fun _=>rfl) hS h);simp only[Bool.and_eq_true,Bool.not_eq_true',beq_iff_eq] at hB;obtain⟨⟨⟨⟨⟨⟨⟨⟨⟨hk,h0⟩,ht⟩,hr⟩,hx⟩,hy⟩,fT⟩,bT⟩,hX⟩,hY⟩:=hB;have h0:=of_decide_eq_true h0;obtain rfl:=fQ hk;subst ht;obtain⟨n,rfl⟩:∃n,fuel=n+1:=⟨fuel-1,z7⟩;have Gc:∀j,j∈Region.ready md ops V ↔ j=e∨j=f:=zU;have hne:Region.ready md ops V≠[]:=fun h0=>z1D;refine⟨fun h0=>absurd h0 hne,fun j hj=>?_⟩;have h1:=gD [[.aB e t1 k1]] (jV s.flatten t) false wf a wf (fun _=>rfl) K8 h.1;have h2:=gD [[.aB f t2 k2]] (jV s.flatten t) false wf a wf (fun _=>rfl) K7 h.2;have old:∀(k:Bool) (w2:World),(k=true→Old wf w2)→Old (if k then wf else w2) w2:=fun k w2 hk=>by exact z9F
 rcases(Gc j).1 hj with rfl|rfl
 ·exact xI hc hj hx fT h1 fun a2 w2 ho h=>sP hs hQ x t1 k1 n _ a2 (if k1 then wf else w2) w2 (old k1 w2 ho) (fun hk=>z1n) (hc.set hj) hX h
 ·exact xI hc hj hy bT h2 fun a2 w2 ho h=>sP hs hQ y t2 k2 n _ a2 (if k2 then wf else w2) w2 (old k2 w2 ho) (fun hk=>z1n) (hc.set hj) hY h):P:=h
theorem z6h (h:P:=by
 simp only[nQ,Bool.and_eq_true] at hB;obtain⟨⟨⟨⟨⟨⟨⟨⟨⟨K8,K7⟩,h0⟩,hr⟩,hx⟩,hy⟩,fT⟩,bT⟩,hX⟩,hY⟩:=hB;have h0:=of_decide_eq_true h0;obtain⟨n,rfl⟩:∃n,fuel=n+1:=⟨fuel-1,z7⟩;have Gc:∀j,j∈Region.ready md ops V ↔ j=e∨j=f:=zU;have hne:Region.ready md ops V≠[]:=fun h0=>z1D;have tF:(if kb then wf else w)=wf:=z9f;have h':aA P ops (fun a2 w2=>kH P ops (Q .normal) x t1 k1 (if k1 then(if kb then wf else w) else w2) a2 w2) [[.aB e t1 k1]] t kb wf a w∧aA P ops (fun a2 w2=>kH P ops (Q .normal) y t2 k2 (if k2 then(if kb then wf else w) else w2) a2 w2) [[.aB f t2 k2]] t kb wf a w:=h;rw[tF] at h';refine⟨fun h0=>absurd h0 hne,fun j hj=>?_⟩;have h1:=gD [[.aB e t1 k1]] t kb wf a w fQ K8 h'.1;have h2:=gD [[.aB f t2 k2]] t kb wf a w fQ K7 h'.2;have old:∀(k:Bool) (w2:World),(k=true→Old wf w2)→Old (if k then wf else w2) w2:=fun k w2 hk=>by exact z9F
 rcases(Gc j).1 hj with rfl|rfl
 ·exact Ef fQ hc hj hx fT h1 fun a2 w2 ho h=>sP hs hQ x t1 k1 n _ a2 (if k1 then wf else w2) w2 (old k1 w2 ho) (fun hk=>z1n) (hc.set hj) hX h
 ·exact Ef fQ hc hj hy bT h2 fun a2 w2 ho h=>sP hs hQ y t2 k2 n _ a2 (if k2 then wf else w2) w2 (old k2 w2 ho) (fun hk=>z1n) (hc.set hj) hY h):P:=h
theorem z6i (h:P:=by
 have HB:=aa (((Below.refl w.heap.size w).alloc ae (.cells #[.int .i64 kd,.int .i64 num,.string ⟨text.toArray⟩,.slice A n c] 60)).alloc zd (.cells #[.int .i64 gB,.int .i64 tT,.string ⟨nR.toArray⟩,.slice A2 n2 c2] 60));cases h1:(kd==gB)
 ·go_wp2_with fail;go_ret;refine⟨?_,HB.out⟩;have:kd≠gB:=z5p;simp[this]
 ·cases h2:(num==tT)
  ·go_wp2_with fail;go_ret;refine⟨?_,HB.out⟩;have:num≠tT:=z56;simp[this]
  ·by_cases h3:text=nR
   ·subst h3;have aS:=aa (((Below.refl w.heap.size w).alloc ae (.cells #[.int .i64 kd,.int .i64 num,.string ⟨text.toArray⟩,.slice A n c] 60)).alloc zd (.cells #[.int .i64 gB,.int .i64 tT,.string ⟨text.toArray⟩,.slice A2 n2 c2] 60));have e1:kd=gB:=z5p;have e2:num=tT:=z56;have HE:=ag e1 e2;clear e1 e2;go_wp2_with fail;refine(Q6 av jd _ _ list wC _ (HL.1.below ax aS.out) (HL.2.below ax aS.out)).mono ?_;rintro e3 w3 ⟨rfl,bY⟩;have di:=aa (bt aS.out bY);clear bY;generalize hd:decide (list=wC)=d at*;have HD:=aa hd;clear hd;go_wp2_with fail;go_ret;refine⟨?_,di.out⟩;rw[←HD.out,HE.1,HE.2];simp
   ·have h3b:(text==nR)=false:=z5j;go_wp2_with fail;go_ret;refine⟨?_,HB.out⟩;simp[h3]):P:=h
theorem z6j (h:P:=by
 obtain rfl:k=l.length:=z7;go_wp2_with fail
 repeat' first
   | (go_ret
      exact⟨⟨_,rfl⟩,z8⟩)):P:=h
theorem z6k (h:P:=by refine aW [_] fun K hK=>?_;have dI:=dU (bt HW.out HB.out) (af HW.size HB.size) dM.out;have hwz:w.heap.size≤qy.heap.size:=af HW.size HB.size;go_wp2_with(at_builtin;go_loud(refine aU rfl (.tmp 21) (.tmp 23) _ rfl qy.heap.size 90 i0 _ 5 88 underlying88 fu hz hs dA rfl z7 (az D) (av:=av) _ ([]++l) rfl bW.out [[.int .i64 op,.string ⟨kind.toArray⟩,.string ⟨name.toArray⟩,.slice A1 n1 k1,.slice A2 n2 k2]] [.mk op kind name vals kids] _ _ rfl aK.out rfl zd zq zQ z1i z7 dM.size ?_);intro v6 w6 Bj uL _);have bL:=aa (gY dM.out bW.out ae dM.size uL);have om:=aa Bj;clear Bj uL dI hwz;refine ay.go hK ?_;clear hK K;refine cmBa1 ?_;refine au ?_;go_wp2_with fail;go_meet;case rel=>obtain⟨A6,c6,rfl,_,_⟩:=om.open_;refine⟨A6,c6,[]++l++[.mk op kind name vals kids],rfl,om.out.ls (az D) z7 z1i (fun k hk _=> .inl hk) (fun q hq=> .inr ?_),zr,bt HB.out bL.out⟩;have h1:=(om.lt q hq).1;have h2:=HW.size;have h3:=HB.size;omega):P:=h
theorem z6l (h:P:=by refine aW [_] fun K hK=>?_;go_wp2_with(refine bu 64 rfl b5 rfl rfl dh.out xh ?_;intro wz aG);refine ay.go hK ?_;clear hK K;refine cmBa1 ?_;refine au ?_;have dA:=HR.bs;have CB:=eB.out;have hs5:=bA.out;have HG:Hid (Dc E w.heap.size w1.heap.size b5 #[.string ⟨f.key.toArray⟩,.int .i64 f.kind,.slice A1 n1 k1,.bool f.mI,.int .i64 f.off,.slice A2 n2 k2,.slice A3 n3 k3,.slice A4 n4 k4,.int .i64 f.dflt.var,.string ⟨f.dflt.kind.toArray⟩,.string ⟨f.dflt.iq.toArray⟩,.string ⟨f.dflt.aN.toArray⟩,.slice A5 n5 k5] _ w st wq):=aa ⟨HQ.2.2.2.1,HQ.2.2.2.2,dh.out,HQ.1,Wr.of_below _ HQ.2.1,dA,Nat.le_refl _,CB.1,z7⟩;exact zbG (zt 3)):P:=h
theorem z6m (h:P:=by go_upto_region 1 with(refine aD rfl 90 _ (by rfl) _ (by rfl) ?_;intro w1 hk hb hsz;have HC:=ag (show ah w1 w.heap.size 90 #[.int .i64 op,.string ⟨kd.toArray⟩,.string ⟨nm.toArray⟩,.slice A1 n1 c1,.slice A2 n2 c2] from hk) (ai hb hsz);clear hk hb hsz);obtain⟨d0,d1,d2,d3,d4⟩:=HC.1.c5;have s0:_=some _:=(HG.1.below' HC.2.1).cell 0;have i0:_=some _:=(HG.2.below' HC.2.1).cell 0;go_wp2_with fail;refine(vE av jb gm (.slice A0 ns jG) (.slice Ai ni ci) [.int .i64 op,.string ⟨kd.toArray⟩,.string ⟨nm.toArray⟩,.slice A1 n1 c1,.slice A2 n2 c2] x w1 (HS.1.below bG HC.2.1) (HS.2.below ax HC.2.1) ((az d).keep HE.out fun k _ hk=>HC.2.1.block k hk) (HT.below HC.2.1)).mono ?_;rintro e2 w2 ⟨rfl,bQ⟩;have HB:=aa (bt HC.2.1 bQ);generalize hd:iM s ins d x=dd at*;have HD:=aa hd;clear d0 d1 d2 d3 d4 s0 i0 bQ hd;exact z9B):P:=h
theorem z6n (h:P:=by have qV:nv=0:=BG.symm;subst qV;exact z9E):P:=h
theorem z6o (h:P:=by have HF:Hid (ah w8 w.heap.size 44 _∧ah w8 w4.heap.size 44 _∧w.grownBy w8 (some g)∧Dw B g w8∧Ls 3 oL w8 (fun k=>w3.heap.size≤k∧k<w4.heap.size) (.slice As nl cs) ls):=aa ⟨H8.1,H8.2.1,H8.2.2.1,H8.2.2.2.1,H8.2.2.2.2.1⟩;exact zcd (zt 1)):P:=h
theorem z6p (h:P:=by obtain rfl:k=l.length:=z7;have ic:=tX HN.out;go_wp2_with fail;go_ret;exact⟨z1j,hB⟩):P:=h
theorem z6q (h:P:=by
 go_wp2_with fail;go_roundw;case rel=>exact⟨⟨k+1,zd,z7,HC.out,HX.out⟩⟩
 case measure=>exact z9L):P:=h
theorem z6r (h:P:=by have uk:=HE;exact zaY (zt 3)):P:=h
theorem z6s (h:P:=by
 have hp0:=hp;simp only[oF,Bool.and_eq_true,Bool.not_eq_true'] at hp;obtain⟨⟨h1,h2⟩,h3⟩:=hp;obtain⟨o,ho⟩:=Option.isSome_iff_exists.1 h2;rw[List.filterMap_cons] at h;simp only[dS,ho] at h;refine⟨fun h=>absurd (h1▸h) zd,oV ho (fun a2 w2 h=>mQ l t kb (if kb then wf else w2) a2 w2 (fun hk=>z1n) h3 (fun a3 w3 jF=>?_) h) h⟩;have this:iJ P ops Q r (jV l t) (jl l kb) (if jl l kb then wf else w3) a3 w3:=hK a3 w3 jF
 have e:(if jl l kb then(if kb then wf else w2) else w3)=(if jl l kb then wf else w3):=by
  cases hk:jl l kb with
  |false=>rfl
  |true=>rw[uK l t kb h3 hk];rfl
 rw[e];exact this):P:=h
theorem z6t (h:P:=by
 simp only[oF,Bool.and_eq_true,Bool.not_eq_true'] at hp;obtain⟨⟨⟨h1,h4⟩,h2⟩,h3⟩:=hp;subst h4;obtain⟨o,ho⟩:=Option.isSome_iff_exists.1 h2;rw[List.filterMap_cons] at h;simp only[dS,ho] at h;refine oV ho (fun a2 w2 h=>⟨fun h=>absurd (h1▸h) zd,mQ l t' false _ a2 w2 (fun _=>rfl) h3 (fun a3 w3 jF=>?_) h⟩) h;have this:iJ P ops Q r (jV l t') (jl l false) (if jl l false then wf else w3) a3 w3:=hK a3 w3 jF
 have e:jl l false=false:=by
  cases hk:jl l false with
  |false=>rfl
  |true=>exact absurd (uK l t' false h3 hk) zd
 simp only[e,Bool.false_eq_true,if_false] at this⊢;exact this):P:=h
theorem z6u (h:P:=by
 intro L W hj hT;refine⟨trivial,?_⟩;cases t with
 |none=>trivial
 |some t0=>
  intro h0;by_cases e0:t0=e
  ·rw[e0,hj] at h0;cases h0
  ·exact hT t0 rfl e0 h0):P:=h
theorem z6v (h:P:=by
 have xD:=HP.push ae kV bK;rw[←HS.out] at xD;obtain⟨A2,c2,hq,_,_⟩:=xD.ow.open_;rw[List.length_map,List.length_take,Nat.min_eq_left z7] at hq;subst hq;go_roundw;case rel=>exact⟨k+1,A2,c2,zd,rfl,z7,xD⟩
 case measure=>exact z9L):P:=h
theorem z6w (h:P:=by
 first
   | exact⟨X⟩
   | (repeat apply Exists.intro
      exact ai ⟨X⟩ rfl)):P:=h
theorem z6x (h:P:=by go_ret;exact⟨⟨_,rfl⟩,Below.refl _ _⟩):P:=h
theorem z6y (h:P:=by exact⟨0,rfl,z7,Below.refl _ _⟩):P:=h
theorem z6z (h:P:=by
 go_roundw
 case rel=>
  have h2:=yg.2;have X:ExR w1 w2 w8 z6 (k+1) (.slice Ao no co):=⟨⟨lo,HO.1.below bD h2,af HO.2 z38⟩,bt HB.1 h2,bt HB.2.1 h2,af HB.2.2 h2.size⟩
  first
    | exact⟨⟨k+1,zd,Ao,no,co,rfl,z7,X⟩⟩
    | exact⟨⟨k+1,zd,Ao,no,co,⟨rfl,rfl,rfl⟩,z7,X⟩⟩
    | (repeat apply Exists.intro
       exact ai ⟨⟨k+1,Ao,no,co,zd,rfl,z7,X⟩⟩ rfl)
 case measure=>exact z9L):P:=h
theorem z6A (h:P:=by
 cases hp:p x y
 ·have HP:=aa (kZ.out hp);clear hp;go_wp2_with fail;go_ret;rw[HP.out];exact⟨rfl,dW.out⟩
 ·have HP:=aa hp;clear hp;go_wp2_with fail;go_roundw
  case rel=>exact⟨⟨k+1,zd,z7,dW.out,fun j h h2 hj=>by
   rcases vH.out j h h2 hj with h3|⟨h3,h4⟩
   ·exact HA.out j h h2 h3
   ·rw[h3,h4];exact HP.out⟩⟩
  case measure=>exact z9L):P:=h
theorem z6B (h:P:=by
 simp only;split at h
 ·rename_i hw;rw[if_pos hw];exact Oper.wp_mono (fun a2 w2 h=>key a2 w2 h) h
 ·rename_i hw;rw[if_neg hw];exact key _ _ h):P:=h
theorem z6C (h:P:=by exact⟨0,rfl,z7,fun j hj=>absurd hj z7,Below.refl _ _⟩):P:=h
theorem z6D (h:P:=by refine aW [_] fun K hK=>?_;go_wp2_with(refine bu 192 rfl na rfl rfl dh.out lK ?_;intro wz aG);refine ay.go hK ?_;clear hK K;refine cmBa1 ?_;refine au ?_;exact zbG (zt 1)):P:=h
theorem z6E (h:P:=by
 have hk:∀k,k<E.base→k≠E.mo→w'.heap[k]? =w.heap[k]?:=fun k hk hne=>hg.block k z2P zY;refine h.maps hg.size (fun k h1 h2=>hk k h1 fun e=>h2 (.inr e)) ?_ ⟨_,hm,fun k=>?_⟩
 ·obtain⟨fd,h1,h2⟩:=h.dn;exact⟨fd,h1.same (hk _ h.db h.ne),fun k=>(h2 k).keep fun k ha=>hk k (h.ab k ha).1 fun e=>(h.ab k ha).2 (.inr e)⟩
 ·by_cases hk:k=key
  ·subst hk;rw[jX];simp
  ·rw[kW z5f,hf k];simp[hk]):P:=h
theorem z6F (h:P:=by
 intro L W hj hT;refine⟨fun h=>z40,?_⟩;cases t with
 |none=>trivial
 |some t0=>
  intro h0;by_cases e0:t0=j
  ·rw[e0,hj] at h0;cases h0
  ·exact hT t0 rfl e0 h0):P:=h
theorem z6G (h:P:=by refine aW [_] fun K hK=>?_;go_wp2_with(refine bu 74 rfl nc rfl rfl dh.out tQ ?_;intro wz aG);refine ay.go hK ?_;clear hK K;refine cmBa1 ?_;refine au ?_;exact zbG (zt 2)):P:=h
theorem z6H (h:P:=by
 go_wp2_with fail
 repeat' first
   | (go_ret2
      exact⟨⟨_,_,rfl⟩,hB⟩)
   | (go_roundw
      case rel=>exact⟨k+1,zd,z7,hB⟩
      case measure=>simp[intOf];omega)):P:=h
theorem z6I (h:P:=by refine aW [_] fun K hK=>?_;go_wp2_with(refine bu 46 rfl ng rfl rfl dh.out FZ ?_;intro wz aG);refine ay.go hK ?_;clear hK K;refine au ?_;exact zbG (zt 4)):P:=h
theorem z6J (h:P:=by have HX:Hid (gL bB v s fo key=some ([],0)):=aa (by rw[oQ.out,if_pos z5x]);have HAH:=aa (uq.below' jH.1);obtain⟨a0,a1,a2,a3,a4⟩:=ah.c5 (HAH.out);go_wp2_with(refine bu 192 rfl w3.heap.size rfl rfl (Eu.below' (jH.2).1) lK ?_;intro wz kR);refine bodyPost_ret (o7 rfl rfl rfl kR.1) rfl ?_;exact⟨Or.inr ⟨_,_,_,_,HX.out,rfl,zl⟩,aC (jH.2).2 (Below.size (jH.2).2) kR.2 cZ.2.1⟩):P:=h
theorem z6K (h:P:=by
 rintro e7 w7 ⟨id7,afC,m7,rfl,hS7,hi7,Oz⟩;have fF:=Oz.blk H6.2.2.2.1 H6.2.2.2.2;have H7:=ag hS7 (ai hi7 (ai (H6.2.2.1.trans Oz) fF));clear hS7 hi7 Oz fF d0 d1 d2 d3 d4;go_wp2_with fail;go_roundw;case rel=>exact⟨k+1,id7,afC,m++m6++m7,zd,rfl,z7,z7,z5z,z5u,H7.2.2.1,H7.2.2.2.1,H7.2.2.2.2⟩
 case measure=>exact z9L):P:=h
theorem z6L (h:P:=by replace HB:=aa (bt HB.out hb);clear hb;exact zbB (zt 3)):P:=h
theorem z6M (h:P:=by rw[xN.out];rw[show ((q+1:Nat):Int)=(q:Int)+1 from zd];exact Rr.snoc pM rfl rfl):P:=h
theorem z6N (h:P:=by
 rcases h.2 with⟨rfl,h0⟩|⟨g,cap,cur,rfl,_⟩
 ·exact⟨none,0,by rw[h0]⟩
 ·exact⟨_,cap,rfl⟩):P:=h
theorem z6O (h:P:=by
 simp only[nQ,Bool.and_eq_true] at hB;refine yA hs hQ (fun t kb fuel V a wf w hO fQ hc hB h=>?_) s.flatten t kb fuel V a wf w hO fQ hc hB.2 (gD s t kb wf a w fQ hB.1 h);have hr:Region.ready md ops V=[]:=by simpa using hB
 exact z9D):P:=h
theorem z6P (h:P:=by
 obtain⟨c0,c1,c2,c3,c4,c5⟩:=HC.out _ HB.out;go_wp2_with fail
 repeat' first
   | (go_ret
      exact⟨⟨_,rfl⟩,bt HW.out z28⟩)
   | (go_roundw
      case rel=>exact⟨k+1,zd,z7,z2R⟩
      case measure=>simp[intOf];omega)
   | (go_quiet(fail)
      go_wp2_with fail)):P:=h
theorem z6Q (h:P:=by
 apply List.ext_getElem?;intro k;rw[List.getElem?_map];rcases Nat.lt_or_ge k l.length with hk|hk
 ·have hx:=List.getElem?_eq_getElem hk;have hc:=List.getElem?_eq_getElem (show k<cs.length from z7);rw[hx,hc,(h4 k _ _ hc hx).1];rfl
 ·rw[List.getElem?_eq_none hk,List.getElem?_eq_none z7];rfl):P:=h
theorem z6R (h:P:=by exact zaH (zt 2)):P:=h
theorem z6S (h:P:=by
 go_wp2_with fail
 repeat' first
   | (go_ret
      exact⟨⟨_,rfl⟩,z8⟩)
   | (go_roundw
      case rel=>exact⟨k+1,zd,z7,z8⟩
      case measure=>simp[intOf];omega)
   | ((cases q0:decide (y.lo<0)<;>cases q1:decide (y.hi≤y.lo))<;>go_quiet(fail)<;>go_wp2_with fail)):P:=h
theorem z6T (h:P:=by
 go_wp2_with fail
 repeat' first
   | (go_ret
      exact⟨⟨_,rfl⟩,z8⟩)
   | (go_roundw
      case rel=>exact⟨k+1,_,zd,rfl,z7,z8⟩
      case measure=>simp[intOf];omega)
   | ((cases q0:(y.lo !=a)<;>cases q1:decide (y.hi≤a))<;>go_quiet(fail)<;>go_wp2_with fail)):P:=h
theorem z6U (h:P:=by
 obtain⟨y,e0⟩:=e0;clear hcell hR hk;cases hq:(y==key) with
 |true=>go_wp2_with fail;go_ret;exact⟨.inr ⟨k,hlt,rfl⟩,HK.2⟩
 |false=>
  go_wp2_with fail;go_roundw;case rel=>exact⟨k+1,zd,z7,HK.1,HK.2⟩
  case measure=>exact z9L):P:=h
theorem z6V (h:P:=by go_wp2_with(refine HI.mono ?_;rintro e w1 ⟨rfl,dJ⟩);go_ret;exact⟨z3M,dJ⟩):P:=h
theorem z6W (h:P:=by go_wp2_with fail;go_meet;case rel=>exact⟨⟨_,_,_,rfl,HG.out⟩⟩):P:=h
theorem z6X (h:P:=by
 have agc:¬(0:Int)<(kn:Int):=z7;obtain⟨b0,b1,b2⟩:=HG.n.b.c3;go_wp2_with fail;go_roundw;case rel=>exact⟨⟨k+1,_,l,zd,jc.out,zO,HF.out⟩⟩
 case measure=>exact z9q):P:=h
theorem z6Y (h:P:=by
 simp only;split at h
 ·rename_i hw;rw[if_pos hw];exact Oper.wp_mono key h
 ·rename_i hw;rw[if_neg hw];exact key _ _ h):P:=h
theorem z6Z (h:P:=by exact zbm (zt 7)):P:=h
theorem z70 (h:P:=by obtain⟨id,own',m,rfl,h6⟩:=h5;have H6:=aa h6;clear h4 h6;exact z9H):P:=h
theorem z71 (h:P:=by
 have HF:=aa (iN.set je 6 (.slice A8 n9 c8));clear iN f6 q6 HG;go_roundw;case rel=>exact⟨⟨k+1,_,l9,zd,jc.out,z3D,HF.out⟩⟩
 case measure=>exact z9q):P:=h
theorem z72 (h:P:=by go_wp2_with fail;go_ret;rw[Nl.out];exact⟨rfl,bt di.out jR.out⟩):P:=h
theorem z73 (h:P:=by have Wt:e7=_:=TH;subst Wt;clear TH;go_wp2_with(refine bu 62 rfl w1.heap.size rfl rfl HC.z5 BM ?_;intro wz HZ);refine bodyPost_ret (DW rfl rfl rfl HZ.1) rfl ?_;exact⟨by rw[HX.out];rfl,z4R,(HC.end_ HZ.2).2⟩):P:=h
theorem z74 (h:P:=by
 intro ks;induction ks with
 |nil=>intro l _;simp
 |cons a ks ih=>intro l hk;rw[List.foldl_cons];have h1:=ih (gI d l a) fun k bT=>hk k (by simp[bT]);have h2:=Ik d l a (hk a zd);rw[List.length_cons,Nat.succ_mul];omega):P:=h
theorem z77 (h:P:=by
 have:=next a3 w3 h
 have e:(if jl l kb then(if kb then wf else w2) else w3)=(if jl l kb then wf else w3):=by
  cases hk:jl l kb with
  |false=>rfl
  |true=>rw[uK l t kb h1.2 hk];rfl
 rw[e];exact this):P:=h
theorem z78 (h:P:=by refine wp_region_noPanic (wp_region_any hm ?_);have:=sP (P:=P) (md:= .any) (Q:=NoPanic Q) hs (fun c a w h=>h) T t false l.length (Array.replicate l.length false) a w.drew w.drew (Old.refl _) (fun _=>rfl) Cq hB h;simpa using BJ _ _ _ _ this):P:=h
theorem z79 (h:P:=by
 first
   | (simp;done)
   | (simp at QH⊢;omega)):P:=h
theorem z7a (h:P:=by
 exfalso;have h0:w.heap[a.block]? =none:=Array.getElem?_eq_none Jk;have h1:w.cell? a=none:=by unfold World.cell?;rw[h0]
 simp only[h1] at h;unfold World.farLoad at h;rw[h0] at h;cases h):P:=h
theorem z7b (h:P:=by have this:iJ P ops Q r t kb (if kb then wf else w) a w:=hK _ _ h;have tF:(if kb then wf else w)=wf:=z9f;rw[tF] at this;exact this):P:=h
theorem z7c (h:P:=by have dY:¬(k:Int)<(n:Int):=z7;have HR:=aa (Xa p (l:=l) (m:=m) (HN.1.trans HN.2.symm) fun j h h2=>HA.out j h h2 z1U);go_wp2_with fail;go_ret;rw[HR.out];exact⟨rfl,HB.out⟩):P:=h
theorem z7d (h:P:=by
 have e2:∀w2 X,oC wf w2 t X l=X:=by
  intro w2 X;unfold oC;split
  ·exact absurd rfl (iC _ _ _)
  ·rfl
 rw[e1] at h;simp only[e2] at h;exact mQ l t kb wf a w fQ h1 next h):P:=h
theorem z7e (h:P:=by go_wp2_with fail;go_meet;case rel=>exact⟨⟨_,l,cO.out,ym.2,HF.out⟩⟩):P:=h
theorem z7f (h:P:=by
 rename_i hu;simp only[Sem.run_bind,run_underlying hu,Result.andThen_ok] at hr⊢
 cases x<;>first
   | (cases hr;done)
   | (injection hr with h1 h2;subst h1;exact⟨h2.symm,fun W _=>rfl⟩)):P:=h
theorem z7g (h:P:=by have HR:=aa (Sg p (l:=l) (m:=m) (by rw[HN.1,HN.2];exact fV));have Jh:((n:Int) !=(n2:Int))=true:=z4Y;clear fV;go_wp2_with fail;go_ret;rw[HR.out];exact z9z):P:=h
theorem z7h (h:P:=by rw[List.getElem?_map,hx] at hc;injection hc with hc;exact⟨hc.symm,ht x (List.mem_of_getElem? hx)⟩):P:=h
theorem z7i (h:P:=by
 clear iN;rw[lM] at HF;go_wp2_with fail;go_roundw;case rel=>exact⟨⟨k+1,_,l9,zd,z7,zO,HF.out⟩⟩
 case measure=>exact z9L):P:=h
theorem z7j (h:P:=by refine⟨do pure (if ←asBool (ρ c) then ρ x else ρ y),fun W=>?_,dR (KP _) fun _=>bE _⟩;simp only[execOp,Sem.run_bind];cases(asBool (ρ c)).run P W<;>simp[Result.andThen,Sem.run_pure]):P:=h
theorem z7k (h:P:=by refine⟨h3,fun x hx=>?_⟩;obtain⟨k,hk,e⟩:=List.getElem_of_mem hx;have:=(h4 k _ _ (List.getElem?_eq_getElem (show k<cs.length from z7)) (List.getElem?_eq_getElem hk)).2;rwa [e] at this):P:=h
theorem z7l (h:P:=by
 have e2:∀wf w2 X,oC wf w2 t X l=X:=by
  intro wf w2 X;unfold oC;split
  ·exact absurd rfl (h2 _ _ _)
  ·rfl
 rw[e1];simp only[e2,Bool.false_eq_true,if_false];exact h):P:=h
theorem z7m (h:P:=by split<;>first|exact bE _|exact fw _):P:=h
theorem z7n (h:P:=by have dY:¬(k:Int)<(n:Int):=z7;obtain rfl:k=n:=z7;go_wp2_with fail;go_ret;have ho:=HO.1;rw[List.take_of_length_le zj] at ho;exact⟨⟨_,rfl,ho⟩,HO.2⟩):P:=h
theorem z7o (h:P:=by
 have HM:=aa (kY.out hq);clear ui kY;go_wp2_with fail;go_roundw;case rel=>exact⟨⟨k+1,zd,z7,HM.out,bL.1⟩⟩
 case measure=>exact z9L):P:=h
theorem z7p (h:P:=by go_wp2_with fail;go_ret;rw[HX.out];exact⟨by simp[Nq.out],aS.2⟩):P:=h
theorem z7q (h:P:=by
 go_wp2_with fail
 repeat' first
   | (go_ret
      exact⟨⟨_,rfl⟩,bt HW.out z8⟩)):P:=h
theorem z7r (h:P:=by rintro e w' ⟨⟨r,rfl,hr⟩,hc,hg⟩;exact⟨⟨_,rfl,r,rfl,hr⟩,hD.only hc hg,hg⟩):P:=h
theorem z7s (h:P:=by have:=run_makeSlice (P:=prog) w 47 3 i _ underlying47 hi hz .i64 .i64 (n:Int) (n:Int) z7 (Int.le_refl _) (by rw[hs];omega) z35 z7;rw[hs] at this;simpa [Value.cells] using this):P:=h
theorem z7t (h:P:=by obtain⟨f,v,x,r⟩:=a;obtain⟨f2,v2,x2,r2⟩:=b;by_cases h1:f=f2<;>by_cases h2:v=v2<;>by_cases h3:x=x2<;>by_cases h4:r=r2<;>simp[h1,h2,h3,h4]):P:=h
theorem z7u (h:P:=by go_wp2_with fail;go_meet;case rel=>exact⟨⟨_,l,cO.2,HF.out⟩⟩):P:=h
theorem z7v (h:P:=by
 go_wp2_with fail;go_roundw;case rel=>exact⟨k+1,Ao,no,co,m',zd,rfl,z7,sw.out,Lh.out⟩
 case measure=>exact z9L):P:=h
theorem z7w (h:P:=by
 go_wp2_with fail;go_roundw;case rel=>exact⟨k+1,zd,z7,HX.out,HB.alloc HB.size _⟩
 case measure=>exact z9L):P:=h
theorem z7x (h:P:=by
 rw[HS.1 j];unfold Aj;simp only[Nat.add_sub_cancel];by_cases hj:j=q
 ·rw[if_pos hj,if_pos hj,hj,HM.out]
 ·rw[if_neg hj,if_neg hj]):P:=h
theorem z7y (h:P:=by go_wp2_with fail;go_ret;exact⟨rfl,rfl⟩):P:=h
theorem z7z (h:P:=by
 refine .inr fun i hi hN=>?_;by_cases QM:i=b
 ·subst QM;rw[upd_same];omega
 ·rw[upd_ne QM];exact h3 i z7 hN):P:=h
theorem z7A (h:P:=by go_wp2_with fail;go_ret;exact⟨⟨_,rfl⟩,bt lD.out dL.out⟩):P:=h
theorem z7B (h:P:=by
 clear aF um aK aH;go_roundw;case rel=>exact⟨⟨k+1,A8,c8,zd,rfl,z7,mM.out⟩⟩
 case measure=>exact z9L):P:=h
theorem z7C (h:P:=by
 rcases lG with e|e
 ·rw[e];exact hb.1.2
 ·rw[e];intro e2;injection e2 with e2;have:=hb.2;omega):P:=h
theorem z7D (h:P:=by rw[xN.out];simp;omega):P:=h
theorem z7E (h:P:=by unfold aA;refine⟨hc,?_⟩;have Ms:jl (.calm i true::l) kb=false:=hk;rw[Ms];have h:=h _ fun _ _ h=>h;rw[ay.is] at h;exact h):P:=h
theorem z7F (h:P:=by rw[ByteArray.toList_eq,List.isEmpty_eq_false_iff] at hq;exact absurd (List.eq_nil_of_length_eq_zero (by rw[Array.length_toList];exact h)) hq):P:=h
theorem z7G (h:P:=by obtain rfl:k=n2:=z7;clear WC hid Jv yc Jh;go_wp2_with fail;go_ret;exact⟨id,ow,m,rfl,HR.1,HR.2.1,HR.2.2.1⟩):P:=h
theorem z7H (h:P:=by
 go_wp2_with fail;go_roundw;case rel=>exact⟨k+1,zd,z7,trivial⟩
 case measure=>exact z9L):P:=h
theorem z7I (h:P:=by
 go_wp2_with fail
 all_goals
   go_ret
   rename_i ht
   refine⟨?_,(Below.refl _ _).alloc ae _⟩
   simp[BN,HN.out,ht]):P:=h
theorem z7J (h:P:=by
 refine⟨pure (ρ x),fun W=>?_,bE _⟩;unfold UL at h;split at h
 ·rename_i a hx;simp only[execOp,hx];rfl
 ·cases h):P:=h
theorem z7K (h:P:=by go_wp2_with fail;go_ret2;exact⟨⟨_,_,rfl⟩,hB⟩):P:=h
theorem z7L (h:P:=by
 go_wp2_with fail
 all_goals
   go_ret
   refine⟨?_,(Below.refl _ _).alloc ae _⟩
   simp[BN,HN.out, *]):P:=h
theorem z7M (h:P:=by rw[hr] at h;cases x<;>simp only[Result.andThen,Oper.upon] at h):P:=h
theorem z7N (h:P:=by obtain⟨r,_,rfl⟩:=List.mem_map.1 hc;rfl):P:=h
theorem z7O (h:P:=by
 split at h
 ·exact⟨fun _=>h.1,next a2 w2 h.2⟩
 ·rename_i hn;exact⟨fun h=>absurd h hn,next a2 w2 h⟩):P:=h
theorem z7P (h:P:=by go_wp2_with fail;go_ret;rw[HX.out];exact⟨rfl,bJ.2.1⟩):P:=h
theorem z7Q (h:P:=by obtain⟨A,c,rfl,_,_⟩:=h1.open_;exact⟨A,_,c,rfl⟩):P:=h
theorem z7R (h:P:=by exact⟨0,none,0,rfl,rfl,z7,Ow.nil _ _ _,Below.refl _ _⟩):P:=h
theorem z7S (h:P:=by simp only[Bool.and_eq_true,Bool.not_eq_true'] at hp;simp only[oZ,oC,hp.1,Bool.false_eq_true,if_false];exact h):P:=h
theorem z7T (h:P:=by obtain⟨cs,h1,h2⟩:=h;exact⟨cs,hb.trans h1,h2⟩):P:=h
theorem z7U (h:P:=by go_wp2_with fail;go_ret;exact⟨rfl,HB.out⟩):P:=h
theorem z7V (h:P:=by exact⟨pure (ρ x),fun W=>rfl,bE _⟩):P:=h
theorem z7W (h:P:=by have:=(HO.lt k hk).1;omega):P:=h
theorem z7X (h:P:=by go_quiet(fail);go_wp2_with fail;go_ret;exact⟨rfl,below_drewN HB.out _⟩):P:=h
theorem z7Y (h:P:=by exfalso;rw[Array.getD_eq_getD_getElem?,Array.getElem?_replicate] at hj;split at hj<;>simp at hj):P:=h
theorem z7Z (h:P:=by refine bodyPost_ret (DW rfl rfl rfl HZ.1) rfl ?_;exact⟨z2I,z4Q,(HC.end_ HZ.2).2⟩):P:=h
theorem z81 (h:P:=by simp only[List.getElem?_cons_zero,Option.some.injEq] at hx;subst hx;exact ah.cell (ah.new w t _) 0):P:=h
theorem z82 (h:P:=by obtain rfl:k=10000:=z7;go_wp2_with fail;go_ret;exact⟨_,rfl,Nat.le_refl _,hA,hB⟩):P:=h
theorem z83 (h:P:=by rename_i v hv;injection h with h1 h2;subst h1;subst h2;exact⟨rfl,fun W hW=>z5E⟩):P:=h
theorem z84 (h:P:=by go_wp2_with fail;go_ret;rw[HX.out];exact⟨by simp[Nq.1,Nq.2],aS.2⟩):P:=h
theorem z86 (h:P:=by go_wp2_with fail;go_ret;rw[si.out,wU.out,pW.out];exact⟨zd,dL.2.2⟩):P:=h
theorem z87 (h:P:=by have:=hla.2.2.1;rw[OP.out] at this;rw[xN.out];omega):P:=h
theorem z88 (h:P:=by simp[Xh,keyLits_int m underlying3 ha,keyLits_int m underlying3 hb,keyLits_int m underlying3 hc]):P:=h
theorem z89 (h:P:=by go_wp2_with fail;go_meet;case rel=>exact⟨⟨false,rfl,z5s,rfl⟩⟩):P:=h
theorem z8a (h:P:=by obtain rfl:k=n:=z7;clear hk;go_wp2_with fail;go_ret;exact⟨.inl rfl,HK.2⟩):P:=h
theorem z8b (h:P:=by go_wp2_with fail;go_meet;case rel=>exact⟨⟨_,rfl,HG.out⟩⟩):P:=h
theorem z8c (h:P:=by exact⟨rfl,fun _=>rfl,fun h6=>by simp at h6⟩):P:=h
theorem z8d (h:P:=by
 rcases(h5 k).1 hk with rfl|rfl|e
 ·exact h1.lt
 ·exact h3.lt
 ·exact(h2.lt k e).2):P:=h
theorem z8e (h:P:=by obtain rfl:k=n:=z7;go_wp2_with fail;go_ret;exact⟨⟨_,rfl⟩,kG.out⟩):P:=h
theorem z8f (h:P:=by rw[Nat.zero_add,(Ex i hi).1,List.getD_eq_getElem?_getD,List.getElem?_eq_getElem hi];rfl):P:=h
theorem z8g (h:P:=by go_wp2_with fail;go_ret2;exact⟨⟨_,_,rfl,Or.inr ⟨rfl,rfl,EM⟩⟩,bJ.2.1⟩):P:=h
theorem z8h (h:P:=by simp only[execOp,resolve,Sem.run_bind,Sem.run_pure,Result.andThen_ok,invoke,builtin]):P:=h
theorem z8i (h:P:=by rw[if_neg hw] at h;exact⟨undef,h,fun C _=> .inr ⟨by simpa using hw,rfl⟩⟩):P:=h
theorem z8j (h:P:=by go_wp2_with fail;go_ret2;exact⟨.inr ⟨HX.out,_,zL,rfl⟩,dL.out⟩):P:=h
theorem z8k (h:P:=by go_wp2_with fail;go_ret;rw[HX.out];exact⟨by simp[HX.out],bA.2⟩):P:=h
theorem z8l (h:P:=by go_wp2_with fail;go_meet;case rel=>exact⟨⟨_,l,zO,HF.out⟩⟩):P:=h
theorem z8m (h:P:=by go_wp2_with fail;go_ret;rw[HX.out];exact⟨zd,aS.2⟩):P:=h
theorem z8n (h:P:=by exact⟨1,VR,VB,m5,rfl,rfl,z7,Nat.le_refl _,H5.1,H5.2.1,H5.2.2,XT.1,XT.2⟩):P:=h
theorem z8o (h:P:=by go_wp2_with fail;go_ret2;exact⟨⟨_,_,rfl⟩,bt HW.out bL.out⟩):P:=h
theorem z8p (h:P:=by go_wp2_with fail;go_meet;case rel=>exact⟨⟨_,rfl,HF.out⟩⟩):P:=h
theorem z8q (h:P:=by exact⟨0,none,0,0,[],rfl,rfl,z7,⟨Ow.nil _ _ _,Below.refl _ _⟩,zd⟩):P:=h
theorem z8r (h:P:=by go_wp2_with fail;go_ret2;rw[HX.out];exact⟨zd,cZ.2⟩):P:=h
theorem z8s (h:P:=by go_wp2_with fail;go_ret;rw[Nl.out];exact⟨rfl,di.out⟩):P:=h
theorem z8t (h:P:=by go_wp2_with fail;go_ret;exact⟨rfl,hb⟩):P:=h
theorem z8u (h:P:=by simp[Lit.wf,IntKind.min,IntKind.max,IntKind.bits,IntKind.signed] at h;omega):P:=h
theorem z8v (h:P:=by go_ret;exact⟨⟨_,rfl⟩,HB.out⟩):P:=h
theorem z8w (h:P:=by go_wp2_with fail;go_ret;exact⟨⟨_,rfl⟩,bt lD.out bL.out⟩):P:=h
theorem z8x (h:P:=by go_wp2_with fail;go_ret;exact⟨⟨_,rfl⟩,bt HW.out HB.1⟩):P:=h
theorem z8y (h:P:=by subst Bu;exact hy.wpOp hi ⟨listed,hc,Y5 hr,hS⟩ ⟨(hSi _ _).2 hS,H⟩):P:=h
theorem z8z (h:P:=by
 intro X;unfold oZ;split
 ·exact absurd rfl (iH _ _)
 ·rfl):P:=h
theorem z8A (h:P:=by go_wp2_with fail;go_ret;exact⟨⟨_,rfl⟩,bt lD.out jR.out⟩):P:=h
theorem z8B (h:P:=by simp only[List.cons.injEq,and_true] at hq;rw[hq.2.2.2.2.2.2.1];exact hl):P:=h
theorem z8C (h:P:=by
 intro X;unfold oZ;split
 ·exact absurd rfl (h1 _ _)
 ·rfl):P:=h
theorem z8D (h:P:=by simp only[List.cons.injEq,and_true] at hq;rw[hq.2.2.2.2.2.1];exact hf):P:=h
theorem z8E (h:P:=by go_wp2_with fail;go_ret;exact Ir.same HS.out HK.out (.inr HY.out) aj):P:=h
theorem z8F (h:P:=by go_wp2_with fail;go_ret;exact⟨⟨_,rfl⟩,bt HW.out bL.1⟩):P:=h
theorem z8G (h:P:=by injection h with h _;exact⟨_,h⟩):P:=h
theorem z8H (h:P:=by go_wp2_with fail;go_ret;exact⟨⟨_,rfl⟩,bt HW.out cZ.out⟩):P:=h
theorem z8I (h:P:=by unfold eqGuard;split<;>exact bE _):P:=h
theorem z8J (h:P:=by rw[List.all_eq_true.1 hq _ (List.getElem_mem h)] at hb;cases hb):P:=h
theorem z8K (h:P:=by injection h with h;injection h with h1 h2;subst h1 h2;rfl):P:=h
theorem z8L (h:P:=by have h2:=h (n+1) z7 (Nat.le_refl _);simp only[sumTo];omega):P:=h
theorem z8M (h:P:=by go_wp2_with fail;go_ret;exact jw.same HS.out (.inl rfl) HC.out):P:=h
theorem z8N (h:P:=by go_wp2_with fail;go_ret;rw[HX.out];exact⟨rfl,HB.2⟩):P:=h
theorem z8O (h:P:=by simpa using this):P:=h
theorem z8P (h:P:=by rw[e1,e2];simp only[if_true,List.length_cons];omega):P:=h
theorem z8Q (h:P:=by exact⟨⟨0,rfl,z7,Below.refl _ _,fun j _ _ h=>z7⟩⟩):P:=h
theorem z8R (h:P:=by go_wp2_with fail;go_ret;exact⟨z2I,HB.2⟩):P:=h
theorem z8S (h:P:=by exact JG.snoc (fun x hx=>hsm x z5g) _ ⟨hrm.1,⟨z4o,z4S⟩,hrm.2.2⟩):P:=h
theorem z8T (h:P:=by rw[if_pos rfl,List.getElem?_append_right z7];simp[hl]):P:=h
theorem z8U (h:P:=by exact⟨0,rfl,z7,kG.1,kG.2⟩):P:=h
theorem z8V (h:P:=by show x.text.toArray.size≤_;simp;omega):P:=h
theorem z8W (h:P:=by simp only[List.map_cons,List.flatten_cons,ih];rfl):P:=h
theorem z8X (h:P:=by have:=HR.db;have:=HR.ob;rintro(e|e)<;>omega):P:=h
theorem z8Y (h:P:=by exact⟨⟨0,_,_,rfl,rfl,z7,Ow.VD how,TL⟩⟩):P:=h
theorem z8Z (h:P:=by obtain⟨wq,rfl⟩:∃z,z=wz:=⟨_,rfl⟩;exact zae (zt 0)):P:=h
theorem z90 (h:P:=by
 have qw:=aa (Ec (d:=d) (L:=l) Fx.out (show l.length+4*dB d≤900000 from z1K));go_wp2_with fail;go_loopw [0,28] (fun vo i wr=>Bx (∃(k:Nat) (v':Value),i= .int .i64 (k:Int)∧vo=v'∧k≤nk∧AtR d base av l kids k w wr v')) (fun _ i _=>nk-(intOf i).toNat);case atStart=>exact⟨⟨0,_,rfl,rfl,z7,rP.out⟩⟩
 case round=>
  obtain⟨⟨k,v',rfl,rfl,hk,hR⟩⟩:=hrel;have HR:=aa hR;clear hR;by_cases hlt:k<nk
  ·exact zbo (zt 0)
  ·exact z9U):P:=h
theorem z91 (h:P:=by
 refine au ?_;refine⟨?_,?_⟩;next=>exact zaq (zt 2)
 exact zaE (zt 0)):P:=h
theorem z92 (h:P:=by have hne:1+(y:Int)≠lv:=z5a;have uG:Hid (1≤1+(y:Int)∧1+(y:Int)≤(n:Int)∧∀s,l[l.length-1]? =some s→1+(y:Int)≠s.var):=aa ⟨z7,z7,HS.sep hne⟩;have HI:Hid (df at_∧df 10000∧df (1+(y:Int))):=aa ⟨⟨z26,z27⟩,⟨z7,z7⟩,⟨z7,z7⟩⟩;clear hne;have bW:=aa (HS.ow.alloc aT (.cells #[.int .i64 at_,.int .i64 10000,.int .i64 (1+(y:Int))] 71));have aK:=aa (Sl.made (w:=w7) (av:=fun _=>True) [.int .i64 at_,.int .i64 10000,.int .i64 (1+(y:Int))] 71 (size:=3) rfl trivial);have aH:=aa ((Below.refl (w7).heap.size w7).alloc ae (.cells #[.int .i64 at_,.int .i64 10000,.int .i64 (1+(y:Int))] 71));go_wp2_with(at_builtin;refine aU rfl (.tmp 60) (.tmp 64) _ rfl w.heap.size 71 i0 _ 3 24 underlying42 fu hz eZ dA rfl z7 aT _ _ rfl bW.out [[.int .i64 at_,.int .i64 10000,.int .i64 (1+(y:Int))]] [⟨at_,10000,(1+(y:Int))⟩] _ _ rfl aK.out rfl zd zg zm zo z7 (af HS.gr.size aH.size) ?_;intro v8 w8 bN aM _;have aF:=ag bN aM;clear bN aM);exact zbu (zt 0)):P:=h
theorem z93 (h:P:=by obtain⟨A,c,rfl,dx,dC⟩:=HI.ow.open_;have f0:=cell1 HI.b1;go_wp2_with(refine bu 54 rfl w.heap.size rfl rfl HI.b0 oz ?_;intro wz aG);refine bodyPost_ret (results_cell_row rfl _ _ w.heap.size 54 _ (0,0) _ rfl aG.1 underlying54 rfl oz) rfl ?_;have hN:=HN.out;exact⟨⟨_,rfl,_,_,rfl,((HI.ow.ls bG z7 z1f (fun q h _=>h) (fun q hq=>(HI.ow.lt q hq).1)).grown bG aG.2 (fun q hq=>zi)).weaken bG z7 (fun q hq _=>z7),z1f⟩,HI.dw.whole aG.2 hN.1 ae HI.gr.size,aP HI.gr aG.2 ae⟩):P:=h
theorem z94 (h:P:=by refine aW [_] fun K hK=>?_;go_wp2_with(refine bu 92 rfl xX rfl rfl dh.out Ba ?_;intro wz aG);refine ay.go hK ?_;clear hK K;refine au ?_;exact zbG (zt 0)):P:=h
theorem z95 (h:P:=by exact zaO (zt 0)):P:=h
theorem z96 (h:P:=by
 refine aW [_] fun K hK=>?_;go_wp2_with(at_builtin;refine gF rfl (.tmp 50) (.tmp 56) rfl qy.heap.size _ ([]++lt') rfl bW.out [y.2] _ _ rfl aK.out z1R z14 dM.size ?_;intro v6 w6 Bj uL _);have bL:=aa (gY dM.out bW.out ae dM.size uL);have om:=aa Bj;clear Bj uL;refine ay.go hK ?_;clear hK K;refine cmBa1 ?_;refine au ?_;go_wp2_with fail;obtain⟨A6,c6,rfl,_,_⟩:=om.open_;go_roundw;case rel=>obtain⟨A4,c4,h4,_⟩:=CU.out.out.open_;have hn:=CU.below bL.out;have hu:=Nw XC.out rQ.out Iq.1;have h1:=lU.out;have h2:=Iq.2;subst h4;refine⟨k+1,A4,A6,_,c4,_,c6,l4,[]++lt'++[y.2],zd,rfl,rfl,z7,rfl,⟨hn.out,om.out.ls ax z7 z14 (fun _ h _=>h.elim) (fun q hq=>af CU.lo.size (om.lt q hq).1),hn.lo⟩,?_,z7⟩;simp only[List.nil_append,List.length_append,List.length_singleton];omega
 case measure=>exact z9L):P:=h
theorem z97 (h:P:=by obtain⟨wq,rfl⟩:∃z,z=wz:=⟨_,rfl⟩;exact za3 (zt 3)):P:=h
theorem z98 (h:P:=by obtain⟨wq,rfl⟩:∃z,z=wz:=⟨_,rfl⟩;exact zao (zt 0)):P:=h
theorem z99 (h:P:=by exact zaC (zt 1)):P:=h
theorem z9a (h:P:=by have xU:∀t0,t=some t0→t0≠e→dN e t=true:=fun t0 e0 hne=>z1y;refine⟨ht _ _ Bv fun t0 e0 hne _=>Old.below (h.1 (xU t0 e0 hne)),nD (fun L W xZ Ji hA=>ht L W Ji fun t0 e0 hne h0=>?_) n _ a2 w2 hcs Bv ih⟩;subst e0;have yK:dN e (some t0)=true:=z5b;exact z64):P:=h
theorem z9b (h:P:=by
 intro a2 w2 h;have bT:k=true→Old wf w2:=fun hk=>Old.below (h.1 z1x)
 have ih:=yA hs hQ base r t' k n (V.setIfInBounds j true) a2 (if k then wf else w2) w2 (by
   cases k with
   | false=>exact Old.refl _
   | true=>exact bT rfl) (fun hk=>z1n) hcs h4 h.2
 have hn:jT d (.aB j t' k::r)=some j:=rfl;rw[hn];have ht:∀L W,L.getD j false=true→(∀t0,t=some t0→t0≠j→L.getD t0 false=false→Old wf W)→fP (some j) t wf w L W:=z6F;exact z9R):P:=h
theorem z9c (h:P:=by
 have EU:l9.length=l.length+1:=z1k;rw[EU] at aF;have ed:w9.grownBy (w9.setCell ⟨wn.heap.size,4,none⟩ (.slice A8 (l.length+1) c8)) (some wn.heap.size):=aR fD (.inl rfl) _;have hlt:=aF.1.lt;have XV:Hid (C9 B g wn.heap.size (d'+1) (2+(r2:Int)) w (w9.setCell ⟨wn.heap.size,4,none⟩ (.slice A8 (l.length+1) c8)) (.slice As m cs) ls (.slice A8 (l.length+1) c8) l9):=aa ⟨Rw.whole ed HA.wN,dW.bC 4 _,aF.1.grown (az (d'+1)) ed (fun q hq=>z4X),zM,HA.wN⟩;clear ed hlt f0 f1 f2 f3 f4 q4;go_wp2_with fail;go_roundw;case rel=>exact⟨⟨k+1,_,l9,zd,z7,z11,XV.out⟩⟩
 case measure=>exact z9L):P:=h
theorem z9d (h:P:=by obtain⟨wq,rfl⟩:∃z,z=wz:=⟨_,rfl⟩;exact zaW (zt 3)):P:=h
theorem z9e (h:P:=by obtain⟨wq,rfl⟩:∃z,z=wz:=⟨_,rfl⟩;exact zai (zt 3)):P:=h
theorem z9f (h:P:=by
 cases kb with
 |false=>exact(fQ rfl).symm
 |true=>rfl):P:=h
theorem z9g (h:P:=by exact zcN (zt 1)):P:=h
theorem z9h (h:P:=by
 clear ui kY;go_wp2_with fail;go_roundw;case rel=>exact⟨⟨k2+1,zd,z7,HM.out,rT.1⟩⟩
 case measure=>exact z9L):P:=h
theorem z9i (h:P:=by
 cases hp:p (l[k]'hlt) with
 |true=>have ic:=vL hlt HN.out hp;clear hp;go_wp2_with fail;go_ret;exact⟨z1j,fZ⟩
 |false=>
  have HP:=aa hp;clear hp;go_wp2_with fail;go_roundw
  case rel=>
   refine⟨k+1,zd,z7,fun j hj=>?_,fZ⟩;by_cases iQ:j=k
   ·subst iQ;exact HP.out
   ·exact HN.out j z7
  case measure=>exact z9L):P:=h
theorem z9j (h:P:=by refine aZ [_] fun K hK=>?_;go_wp2_with(at_builtin;go_loud(refine aU rfl (.tmp 48) (.tmp 51) _ rfl (gn+1) 9 i0 _ 1 16 underlying58 fu Be ER Bw rfl z7 ax (.slice none gk cf) gl rfl z1E [[.string ⟨yt.toArray⟩]] [yt] _ _ rfl aK.out rfl zd zw zG z1Z z7 z25 ?_);intro v8 jU bN aM tZ;have aF:=ag bN (ai aM tZ);clear bN aM tZ);refine ay.go hK ⟨(aQ (lY aF.2.1) _),?_⟩;exact z5V):P:=h
theorem z9k (h:P:=by refine aZ [_] fun K hK=>?_;go_wp2_with(at_builtin;go_loud(refine aU rfl (.tmp 48) (.tmp 51) _ rfl (gn+1) 9 i0 _ 1 16 underlying58 fu Be ER Bw rfl z7 ax (.slice (some ad) gk cf) gl rfl z1E [[.string ⟨yt.toArray⟩]] [yt] _ _ rfl aK.out rfl zd zw zG z1Z z7 z25 ?_);intro v8 jU bN aM tZ;have aF:=ag bN (ai aM tZ);clear bN aM tZ);refine ay.go hK ⟨aF.2.1,?_⟩;exact z5V):P:=h
theorem z9l (h:P:=by obtain⟨⟨v3,l3,rfl,eY⟩,bY⟩:=h4;clear h3;have H3:=ag eY bY;clear eY bY;go_wp2_with fail;go_ret;exact⟨⟨_,_,rfl,H3.1⟩,H3.2⟩):P:=h
theorem z9m (h:P:=by
 rintro((h|h)|h)
 ·exact .inl (List.mem_of_mem_take h)
 ·exact .inr h
 ·exact .inl (List.mem_of_mem_drop h)):P:=h
theorem z9n (h:P:=by
 have uk:=HE;by_cases Ov:0<m
 ·exact z6d
 ·have We:¬0<(m:Int):=z7;exact z5T):P:=h
theorem z9o (h:P:=by
 go_roundw;case rel=>exact⟨k+1,Ao,At,no,co,nt,ct,lo',lt',zd,rfl,rfl,z7,lU.2.2,HN.out,lU.1,lU.2.1⟩
 case measure=>exact z9L):P:=h
theorem z9p (h:P:=by have c0:=HK.2.1.cell 0;have c1:=HK.2.1.cell 1;have c2:=HK.2.1.cell 2;simp only[List.getElem?_toArray,List.getElem?_cons_zero,List.getElem?_cons_succ] at c0 c1 c2;exact z6b):P:=h
theorem z9q (h:P:=by have:=jc.out;exact z9L):P:=h
theorem z9r (h:P:=by rintro e2 w2 ⟨N,rfl,_,_,bQ⟩;have aS:=aa (bt dJ bQ);clear bQ dJ sW ha;go_wp2_with fail;go_ret2;exact⟨.inr ⟨jM.out,_,zL,rfl⟩,aS.out⟩):P:=h
theorem z9s (h:P:=by
 rw[Bool.and_eq_true] at h5;cases t with
 |none=>cases h5.2
 |some t=>have:=fQ (by simpa using h5.1);subst this;exact hT (oI h5.2 xZ TC)):P:=h
theorem z9t (h:P:=by
 rcases List.mem_append.1 h with h|h
 ·exact .inl (.inl h)
 ·exact .inr h):P:=h
theorem z9u (h:P:=by go_wp2_with fail;have hk9:=OV.out;clear hnz V7 Ov BZ qv VV hy;go_wp2_with fail;refine(dH B g n w4 HS.dw z7 z7).mono ?_;exact z5Q):P:=h
theorem z9v (h:P:=by
 go_wp2_with fail;go_roundw;case rel=>exact⟨k+1,zd,z7,HO.bC k _⟩
 case measure=>exact z9L):P:=h
theorem z9w (h:P:=by
 cases t with
 |none=>exact Iff.rfl
 |some t=>have ht:i≠t:=fun e=>Jg z5v;simp only[getD_set_ne false ht]):P:=h
theorem z9x (h:P:=by clear c0 q0 hv;exact z6b):P:=h
theorem z9y (h:P:=by
 rcases hq with h|h
 ·exact h
 ·have h1:=HW.size;have h2:=HB.size;exact .inr z7):P:=h
theorem z9z (h:P:=by exact⟨rfl,Below.refl _ _⟩):P:=h
theorem z9A (h:P:=by have uk:=HE;exact z5T):P:=h
theorem z9B (h:P:=by go_wp2_with fail;go_ret;rw[HD.out];exact⟨rfl,HB.out⟩):P:=h
theorem z9C (h:P:=by go_wp2_with fail;go_meet;case rel=>exact⟨⟨_,l,cO.2,jA.out,uh.out⟩⟩):P:=h
theorem z9D (h:P:=by
 cases fuel with
 |zero=>exact⟨hr,h⟩
 |succ n=>exact⟨fun _=>h,by rw[hr];simp⟩):P:=h
theorem z9E (h:P:=by go_wp2_with fail;go_ret;rw[si.out];exact⟨rfl,bA.2⟩):P:=h
theorem z9F (h:P:=by
 cases k with
 |false=>exact Old.refl _
 |true=>exact hk rfl):P:=h
theorem z9G (h:P:=by exact⟨⟨0,rfl,z7,CO.out,aj⟩⟩):P:=h
theorem z9H (h:P:=by go_wp2_with fail;go_ret;exact⟨id,own',m,rfl,H6.out⟩):P:=h
theorem z9I (h:P:=by
 cases q4:(dd.kg==4)
 ·exact z5U
 ·exact z5O):P:=h
theorem z9J (h:P:=by simp;omega):P:=h
theorem z9K (h:P:=by clear c0 q0 hv hx;exact z6b):P:=h
theorem z9L (h:P:=by simp[intOf];omega):P:=h
theorem z9M (h:P:=by obtain⟨wq,rfl⟩:∃z,z=wz:=⟨_,rfl⟩;exact zaZ (zt 0)):P:=h
theorem z9N (h:P:=by exact zb2 (zt 0)):P:=h
theorem z9O (h:P:=by exact zaq (zt 0)):P:=h
theorem z9P (h:P:=by exact zaE (zt 1)):P:=h
theorem z9Q (h:P:=by obtain⟨a0,a1,a2,a3,a4⟩:=ah.c5 (GM.out);go_wp2_with(refine bu 192 rfl w3.heap.size rfl rfl (Eu.below' (xO.out).1) lK ?_;intro wz kR);refine bodyPost_ret (o7 rfl rfl rfl kR.1) rfl ?_;exact⟨Or.inr ⟨_,_,_,_,HX.out,rfl,zl⟩,aC (xO.out).2 (Below.size (xO.out).2) kR.2 cZ.2.1⟩):P:=h
theorem z9R (h:P:=by have xU:∀t0,t=some t0→t0≠j→dN j t=true:=fun t0 e0 hne=>z1y;refine⟨ht _ _ Bv fun t0 e0 hne _=>Old.below (h.1 (xU t0 e0 hne)),nD (fun L W xZ Ji hA=>ht L W Ji fun t0 e0 hne h0=>?_) n _ a2 w2 hcs Bv ih⟩;subst e0;have yK:dN j (some t0)=true:=z5b;exact z64):P:=h
theorem z9S (h:P:=by intro a2 w2 h;have bT:k=true→Old wf w2:=fun hk=>Old.below (h.1 z1x);have ih:=ih a2 w2 bT h.2;have ht:∀L W,L.getD e false=true→(∀t0,t=some t0→t0≠e→L.getD t0 false=false→Old wf W)→fP none t wf w L W:=z6u;exact z9a):P:=h
theorem z9T (h:P:=by intro a2 w2 h;have bT:k=true→Old w w2:=fun hk=>Old.below (h.1 z1x);have ih:=ih a2 w2 bT h.2;have ht:∀L W,L.getD e false=true→(∀t0,t=some t0→t0≠e→L.getD t0 false=false→Old w W)→fP none t w w L W:=z6u;exact z9a):P:=h
theorem z9U (h:P:=by have dY:¬(k:Int)<(nk:Int):=z7;go_wp2_with fail;go_ret;refine⟨_,rfl,?_,HR.lo,HR.sz⟩;have ho:=HR.ow;rw[List.take_of_length_le z1q] at ho;rw[HG.out];exact ho):P:=h
theorem z9V (h:P:=by clear ed hlt hN aF H9 bW aK aH fK HX hL gZ dx dC qN xY qZ;generalize w9.setCell ⟨w1.heap.size,0,none⟩ (.slice A8 l9.length c8)=w5 at*;exact za0):P:=h
theorem z9W (h:P:=by obtain⟨wq,rfl⟩:∃z,z=wz:=⟨_,rfl⟩;refine cmBa1 ?_;exact z5L):P:=h
theorem z9X (h:P:=by obtain⟨wq,rfl⟩:∃z,z=wz:=⟨_,rfl⟩;refine cmBa1 ?_;exact z65):P:=h
theorem z9Y (h:P:=by
 clear y0 y1 y2 y3 y4 Hr eO EP Cj;go_wp2_with fail;go_roundw;case rel=>exact⟨⟨k+1,v7,zd,rfl,z7,JL.out⟩⟩
 case measure=>exact z9L):P:=h
theorem z9Z (h:P:=by obtain⟨wq,rfl⟩:∃z,z=wz:=⟨_,rfl⟩;refine cmBa1 ?_;exact z94):P:=h
theorem za0 (h:P:=by generalize (Value.slice A8 l9.length c8)=v9 at*;clear fO;exact z93):P:=h
theorem za1 (t:Q) (h:Q→P:=by
 intro zu;obtain rfl|⟨y,mP,rfl⟩:vals=[]∨∃y l,vals=y::l:=z1V
 ·exact z6n
 have iH:0<nv:=z1M;have Ey:(0:Int)<(nv:Int):=z7;have Pn:((nv:Int)==0)=false:=z4Y;obtain⟨ad,cy,had,aY,aI,hR,hcell⟩:=HV.cB aL (show 0<(y::mP).length from zd);subst had;have HY:Hid (gG w6 av cy y):=hR w6 bA.2;obtain⟨Ay,ny,BC,rfl⟩:=jI HY.out;obtain⟨y0,y1,y2,y3⟩:=mX (hcell w6 bA.2);simp only[Nat.zero_mul,FN] at y0 y1 y2 y3;clear hcell hR aI iH;go_upto_region 11 with(first|(refine eD 60 rfl nA ?_;intro w7 aV)|(refine bu 60 rfl w6.heap.size rfl rfl aV.1 kD ?_;intro w8 bI));have dL:=aa (show Below w6.heap.size w6 w8∧Below w2.heap.size w2 w8∧Below w.heap.size w w8 from(have h1:Below w6.heap.size w6 w8:=aC aV.2.1 aV.2.1.size bI.2 ae;⟨h1,bt bA.1 h1,bt bA.2 h1⟩));have Eh:=aa (ah.c4 (show ah w8 w6.heap.size 60 #[.int .i64 y.kind,.int .i64 y.num,.string ⟨y.text.toArray⟩,.slice Ay ny BC] from bI.1));clear y0 y1 y2 y3 aV bI d0 d1 d2 d3 d4;obtain⟨x0,x1,x2,x3⟩:=(HG.out w8 dL.1).c4;obtain⟨y0,y1,y2,y3⟩:=Eh.out;obtain⟨d0,d1,d2,d3,d4⟩:=HC.out w8 dL.2.1;have rY:=ag (aL.keep Nh.out fun k _ hk=>dL.1.block k hk) (aL.keep HY.out fun k _ hk=>dL.1.block k hk)
 first
 |cases(zu:Zt 0);have wU:Hid (yX x 13 (y::mP)=testW x y 13):=aa rfl;have pW:Hid (testW x y 13=if(jL x y).2≠0 then false else decide (let p:=jL x y;p.1≤0)):=aa rfl;exact z62
 |cases(zu:Zt 1);have wU:Hid (yX x 14 (y::mP)=testW x y 14):=aa rfl;have pW:Hid (testW x y 14=if(jL x y).2≠0 then false else decide (let p:=jL x y;0<p.1)):=aa rfl;exact z62
 |cases(zu:Zt 2);have wU:Hid (yX x 15 (y::mP)=testW x y 15):=aa rfl;have pW:Hid (testW x y 15=if(jL x y).2≠0 then false else decide (let p:=jL x y;0≤p.1)):=aa rfl;exact z62
 |cases(zu:Zt 3);have wU:Hid (yX x 7 (y::mP)=testW x y 7):=aa rfl;cases fT:(x.kind==3)<;>cases bT:(y.kind==3)
  all_goals
    go_wp2_with fail
    refine(Q5 (fun _=>True) av [.int .i64 x.kind,.int .i64 x.num,.string ⟨x.text.toArray⟩,.slice A3 n3 c3] [.int .i64 y.kind,.int .i64 y.num,.string ⟨y.text.toArray⟩,.slice Ay ny BC] x y w8 rY.1 rY.2).mono ?_
    rintro e9 w9 ⟨rfl,eu⟩
    have dW:=aa (bt dL.2.2 eu)
    have pW:Hid (testW x y 7=decide (x=y)):=aa rfl
    generalize decide (x=y)=dd at*
    clear eu x0 x1 x2 x3 y0 y1 y2 y3 d0 d1 d2 d3 d4
    go_wp2_with fail
    go_ret
    rw[si.out,wU.out,pW.out]
    exact⟨rfl,dW.out⟩
 |cases(zu:Zt 4);have wU:Hid (yX x 9 (y::mP)=testW x y 9):=aa rfl;have pW:Hid (testW x y 9=(((x.kind==3)&&(y.kind==3))&&Lib.hasPrefix x.text y.text)):=aa rfl;cases fT:(x.kind==3)<;>cases bT:(y.kind==3);all_goals rw[fT,bT] at pW
  all_goals
    go_wp2_with fail
    first
      | (go_ret
         rw[si.out,wU.out,pW.out]
         exact⟨rfl,dL.2.2⟩)
      | (refine(Go.Proofs.Tryz.strings_HasPrefix ⟨x.text.toArray⟩ ⟨y.text.toArray⟩ w8).mono ?_
         rintro e9 w9 ⟨rfl,hw⟩
         subst hw
         rw[show (⟨x.text.toArray⟩:ByteArray).data.toList=x.text from rfl,show(⟨y.text.toArray⟩:ByteArray).data.toList=y.text from rfl]
         generalize Lib.hasPrefix x.text y.text=dd at*
         go_wp2_with fail
         go_ret
         rw[si.out,wU.out,pW.out]
         exact⟨zd,dL.2.2⟩)
 |cases(zu:Zt 5);have wU:Hid (yX x 10 (y::mP)=testW x y 10):=aa rfl;have pW:Hid (testW x y 10=(((x.kind==3)&&(y.kind==3))&&Lib.hasSuffix x.text y.text)):=aa rfl;have hsz:=rY.1;obtain⟨_,_,_,_,_,EM⟩:=hsz;have hsz:(⟨x.text.toArray⟩:ByteArray).size≤9223372036854775807:=by unfold Tl at EM;exact z8V
  clear EM;cases fT:(x.kind==3)<;>cases bT:(y.kind==3);all_goals rw[fT,bT] at pW
  all_goals
    go_wp2_with fail
    first
      | (go_ret
         rw[si.out,wU.out,pW.out]
         exact⟨rfl,dL.2.2⟩)
      | (refine(Go.Proofs.Tryz.strings_HasSuffix ⟨x.text.toArray⟩ ⟨y.text.toArray⟩ w8 hsz).mono ?_
         rintro e9 w9 ⟨rfl,hw⟩
         subst hw
         rw[show (⟨x.text.toArray⟩:ByteArray).data.toList=x.text from rfl,show(⟨y.text.toArray⟩:ByteArray).data.toList=y.text from rfl]
         generalize Lib.hasSuffix x.text y.text=dd at*
         go_wp2_with fail
         go_ret
         rw[si.out,wU.out,pW.out]
         exact⟨zd,dL.2.2⟩)
 |cases(zu:Zt 6);have wU:Hid (yX x 11 (y::mP)=testW x y 11):=aa rfl;have pW:Hid (testW x y 11=((((x.kind==3)&&(y.kind==3))&&Lib.contains x.text y.text)||((y.kind==3)&&(x.kind==5)&&x.list.contains y.text))):=aa rfl;cases bT:(y.kind==3)
  ·rw[bT] at pW;cases fT:(x.kind==3)
   all_goals
     rw[fT] at pW
     go_wp2_with fail
     go_ret
     rw[si.out,wU.out,pW.out]
     exact⟨zd,dL.2.2⟩
  ·rw[bT] at pW;cases fT:(x.kind==3)
   ·rw[fT] at pW;cases Tx:(x.kind==5)
    ·rw[Tx] at pW;exact z86
    ·rw[Tx] at pW
     have nM:Hid (fH w8 (fun _=>True) (.slice A3 n3 c3) x.list):=aa (by
       obtain⟨lv,hc,hl,_⟩:=rY.1
       simp only[List.cons.injEq,and_true] at hc
       rw[hc.2.2.2]
       exact hl)
     go_wp2_with fail;refine(qp (fun _=>True) _ x.list y.text w8 nM.out).mono ?_;rintro e9 w9 ⟨rfl,hw⟩;subst hw;generalize x.list.contains y.text=dd at*;exact z86
   ·rw[fT] at pW
    have Tx:(x.kind==5)=false:=by
     have:x.kind=3:=by simpa using fT
     simp[this]
    rw[Tx] at pW;obtain⟨m,hm⟩:=(HT.below dL.2.2).lt.ml;have EM:=rY.1;obtain⟨_,_,_,_,_,EM⟩:=EM;have hsz:(⟨x.text.toArray⟩:ByteArray).size<4294967281:=by unfold Tl at EM;show x.text.toArray.size<_;exact z9J
    clear EM;go_wp2_with fail;refine(Go.Proofs.Tryz.strings_Contains ⟨x.text.toArray⟩ ⟨y.text.toArray⟩ m w8 hsz hm).mono ?_;rintro e9 w9 ⟨rfl,hw⟩;subst hw;rw[show (⟨x.text.toArray⟩:ByteArray).data.toList=x.text from rfl,show(⟨y.text.toArray⟩:ByteArray).data.toList=y.text from rfl];generalize Lib.contains x.text y.text=dd at*;clear hm;cases dd
    all_goals
      go_wp2_with fail
      go_ret
      rw[si.out,wU.out,pW.out]
      exact⟨rfl,dL.2.2⟩
 |cases(zu:Zt 7);have wU:Hid (yX x 12 (y::mP)=testW x y 12):=aa rfl;have pW:Hid (testW x y 12=if(jL x y).2≠0 then false else decide (let p:=jL x y;p.1<0)):=aa rfl;exact z62):P:=h t
theorem za2 (t:Q) (h:Q→P:=by
 intro zu;obtain⟨A8,c8,rfl,_,_⟩:=aF.1.open_;have aM:=aF.2;have gK:=fK.ow.lt;have jN:=aH.size;have gz:=fK.size;have hN:=HN.out;have dI:Below (w1.heap.size+1) w3 w9:=(aH.mono gz).grown aM (af gz jN) (fun q hq=>(gK q hq).1);have H9:Hid (ah w9 w.heap.size 54 #[.slice none 0 0]∧ah w9 w1.heap.size 54 #[.slice A l0.length c]∧Dw B g w9∧w.grownBy w9 (some g)):=aa ⟨(fK.b0.below' aH.out).grown aM (fun e=>zD),(fK.b1.below' aH.out).grown aM (fun e=>zD),fK.dw.dV dI z7,dX fK.gr (dI.mono z7)⟩;clear aM gK jN gz hN dI;refine ay.go hK ?_;clear hK K;refine cmBa1 ?_;have f0:=cell1 H9.2.1;have q2:=H9.2.1.frozen 0;generalize hL:(l0++[x])=l9 at*;refine cmBa1 ?_;refine au ?_;clear f0 q2;have hN:=HN.out;have ed:w9.grownBy (w9.setCell ⟨w1.heap.size,0,none⟩ (.slice A8 l9.length c8)) (some w1.heap.size):=aR fD (.inl rfl) _;have hlt:=aF.1.lt;have HI:=aa (show Fe B g w.heap.size w1.heap.size w (w9.setCell ⟨w1.heap.size,0,none⟩ (.slice A8 l9.length c8)) (.slice A8 l9.length c8) l9 from⟨H9.1.grown ed ze,H9.2.1.bC 0 _,aF.1.grown bG ed (fun q hq=>z4X),H9.2.2.1.whole ed z7 ae z1O,aP H9.2.2.2 ed z7⟩)
 first
 |cases(zu:Zt 0);replace jQ:Hid (l9.length≤0+1):=aa zC;exact z9V
 |cases(zu:Zt 1);exact zcR (zt 0)
 |cases(zu:Zt 2);replace jQ:Hid (l9.length≤1+1):=aa zC;exact z9V
 |cases(zu:Zt 3);exact zcR (zt 1)):P:=h t
theorem za3 (t:Q) (h:Q→P:=by
 intro zu;refine aZ [_] fun K hK=>?_;go_wp2_with fail;refine(X.kT av jb (.slice A2 n2 k2) v.cK (.slice A0 ns k0) s wq (oh.below dG HB.out) HK.1 H8.out (HS.below bG HB.out) (HT.below HB.out)).mono ?_;rintro e6 wz ⟨⟨vi,rfl,wD⟩,hb⟩;obtain⟨AI,kI,rfl,_,_⟩:=wD.open_;generalize (gV v.cK s).length=nI at*;obtain⟨gm,uY⟩:∃gm:Nat→Prop,gm=fun k=>wq.heap.size≤k∧k<wz.heap.size:=⟨_,rfl⟩;have qD:=aa (show fH wz gm (.slice AI nI kI) (gV v.cK s) from z55);have wT:=aa (show ∀k,gm k→wq.heap.size≤k∧k<wz.heap.size from fun k hk=>z2m);have mK:=aa (fun k (hk:gm k)=>(wT.out k hk).2);try have Gy:=aa (show ∀k,gm k→k≠md from fun k hk e=>z1t)
 try have Gx:=aa (show ∀k,gm k→k≠mo from fun k hk e=>z1u)
 clear uY wT wD;replace HB:=aa (bt HB.out hb);try replace aK:=aa (aK.below hb)
 try replace kE:=aa (kE.below hb)
 go_wp2_with fail;refine ay.go hK ⟨hb,?_⟩;clear hK K
 first
 |cases(zu:Zt 0);refine au ?_;show aA _ _ _ _ _ _ _ _ _;clear hb;exact zbF (zt 6)
 |cases(zu:Zt 1);refine au ?_;show aA _ _ _ _ _ _ _ _ _;clear hb;exact z9e
 |cases(zu:Zt 2);refine au ?_;show aA _ _ _ _ _ _ _ _ _;clear hb;exact z9d
 |cases(zu:Zt 3);clear hb;exact z67):P:=h t
theorem za4 (t:Q) (h:Q→P:=by intro zu;refine aZ [_] fun K hK=>?_;exact zax (zt 1)):P:=h t
theorem za5 (t:Q) (h:Q→P:=by
 intro zu;refine aZ [_] fun K hK=>?_;go_wp2_with fail;have bU:=(Below.refl wq.heap.size wq).alloc ae (.cells #[.string ⟨yt.toArray⟩] 9);have aK:=aa (Sl.made (w:=wq) (av:=fun _=>True) [.string ⟨yt.toArray⟩] 9 (size:=1) rfl trivial);replace HQ:=aa (show Mv prog 9 (wq.alloc (.cells #[.string ⟨yt.toArray⟩] 9)) bn f∧(∀x,Ow 1 jh 9 (wq.alloc (.cells #[.string ⟨yt.toArray⟩] 9)) (gn+1) (fun _=>False) (F x) (vZ (es.take k) x))∧Below fU.heap.size fU (wq.alloc (.cells #[.string ⟨yt.toArray⟩] 9)) from⟨HQ.1.alloc _,fun x=>(HQ.2.1 x).alloc ax _,bt HQ.2.2 bU⟩);generalize wq.alloc (.cells #[.string ⟨yt.toArray⟩] 9)=wz at*;refine ay.go hK ⟨(aQ bU _),?_⟩;clear hK K
 first
 |cases(zu:Zt 0);refine au ?_;show aA _ _ _ _ _ _ _ _ _;exact zby (zt 7)
 |cases(zu:Zt 1);exact zby (zt 8)
 |cases(zu:Zt 2);refine au ?_;show aA _ _ _ _ _ _ _ _ _;exact zby (zt 5)
 |cases(zu:Zt 3);exact zby (zt 6)):P:=h t
theorem za6 (t:Q) (h:Q→P:=by intro zu;have hz:decide ((0:Int)<(k:Int))=true:=z57;exact zcl (zt 1)):P:=h t
theorem za7 (t:Q) (h:Q→P:=by
 intro zu;go_wp2_with(refine eD 114 rfl Nt ?_;intro wz bH);have HG:=ag bH.1 (ai HI.nr (show wq.heap.size<wz.heap.size from z3j));have HOW:=ag ((HI.ow.weaken dG (bS:=fun q=>w3.heap.size≤q∧q≠wq.heap.size) (fun q hq hl=>⟨hq,z7⟩)).below dG bH.2.1) (show(Value.slice A l.length c).ownBlock≠some wq.heap.size from fun e=>z2j);replace HI:=aa (HI.below bH.2.1);try replace jc:=ag ((jc.1.weaken ax (bS:=fun q=>wr.heap.size≤q∧q≠wq.heap.size) z7 (fun q hq hl=>⟨hq,z7⟩)).below ax bH.2.1) jc.2
 try replace yS:=ag ((yS.1.weaken ax (bS:=fun q=>wr.heap.size≤q∧q≠wq.heap.size) z7 (fun q hq hl=>⟨hq,z7⟩)).below ax bH.2.1) yS.2
 first
 |cases(zu:Zt 0);exact zbL (zt 0)
 |cases(zu:Zt 1);exact zbL (zt 3)
 |cases(zu:Zt 2);exact zbL (zt 4)
 |cases(zu:Zt 3);refine ay.go hK ?_;exact zcM (zt 2)):P:=h t
theorem za8 (t:Q) (h:Q→P:=by
 intro zu;rintro e3 w3 ⟨⟨_,rfl,cv,x,rfl,hx⟩,bF,aO⟩;have hsz:=HE.toTsB.size;replace HE:=aa (HE.next HN.out bF aO);obtain⟨A9,n9,c9,rfl⟩:=sM hx;have nV:gG w3 (fun k=>w4.heap.size<k) [iv x.kind,iv x.num,sv x.text,.slice A9 n9 c9] x:=aL.weaken hx (fun k hk _=>Nat.lt_of_lt_of_le hsz hk);have HL:=aa (Ls.one (size:=4) aL [iv x.kind,iv x.num,sv x.text,.slice A9 n9 c9] x 60 rfl nV HE.toTsB.size);have bU:=(Below.refl w3.heap.size w3).alloc ae (.cells #[iv x.kind,iv x.num,sv x.text,.slice A9 n9 c9] 60);replace HE:=aa (HE.below bU);clear hx nV bU bF aO hsz;obtain⟨f0,f1,f2,f3,f4⟩:=HE.b6.c5;have q3:=HE.b6.frozen 3
 first
 |cases(zu:Zt 0);go_upto_region 25 with fail;exact zaj (zt 0)
 |cases(zu:Zt 1);go_upto_region 33 with fail;exact zaj (zt 3)
 |cases(zu:Zt 2);go_upto_region 36 with fail;exact zaj (zt 1)
 |cases(zu:Zt 3);go_upto_region 29 with fail;exact zaj (zt 2)):P:=h t
theorem za9 (t:Q) (h:Q→P:=by intro zu;refine aZ [_] fun K hK=>?_;exact zbM (zt 1)):P:=h t
theorem zaa (t:Q) (h:Q→P:=by intro zu;exact zbx (zt 2)):P:=h t
theorem zab (t:Q) (h:Q→P:=by intro zu;exact zb6 (zt 0)):P:=h t
theorem zac (t:Q) (h:Q→P:=by
 intro zu;have GA:=aa HR.1;have gQ:=aa HR.2.1;clear rZ HQ HR z1 y1;obtain⟨tu,rfl,Hq,U,hQ,hO⟩:=hrel;obtain⟨vr,nG,iG,_⟩:=hQ.room (by have h9:=Fj.out;rwa [EL] at h9) hlt XJ.out;have tY:=hQ.one;obtain⟨q,rfl⟩:∃q,tu=q+1:=⟨tu-1,z7⟩;have QF:q+1≤k:=z7;clear nG iG tY;have z2:=U.h.cell (i:=q+1) z7;have z1:=U.o.cell hlt;rw[XJ.out] at z1;have y1:=U.o.frozen b;have y2:=U.h.frozen (q+1);have hx:ws[q]? =some (ws[q]'z7):=List.getElem?_eq_getElem _;obtain⟨ad,il,rfl,aY,aI,⟨qO,_⟩,hcell⟩:=(HU.below yZ U.below).at_ (show q<ws.length from z7);have fO:=LB hw hx;rw[fO] at qO;subst qO;have z3:=cell0 hcell rfl;simp only[iv,Nat.mul_one] at z3;have Wv:mf (q+1)≤10000:=z5H;have rZ:=aa U;have HQ:=aa hQ;have HO:=aa hO;have hne:gH≠gO:=z4h;clear hcell hx fO U hQ hO;generalize hh:mf (q+1)=hv at z2 Wv;generalize Ol:rU ws (q+1)=wv at z3;have HH:=ag hh Ol;clear hh Ol
 first
 |cases(zu:Zt 0);by_cases Jk:(wv:Int)≤(hv:Int)
  ·exact z6Z
  ·exact zbA (zt 0)
 |cases(zu:Zt 1);by_cases Jk:(wv:Int)≤(hv:Int)
  ·exact z6Z
  ·exact zbA (zt 1)):P:=h t
theorem zad (t:Q) (h:Q→P:=by
 intro zu;have fZ:=gY (Below.refl wr.heap.size wr) HO.out ae ae gP;have bW:=aa ((sZ.alloc ax (.cells #[.string ⟨s.toArray⟩] 9)).grown ax (sU (World.grownBy.refl _ none)) (fun k hk=>z5c));have dz:=aa (fZ.alloc fZ.size (.cells #[.string ⟨s.toArray⟩] 9)).drew;have HM:=aa (Sl.single (w:=w1) (av:=fun _=>True) (.string ⟨s.toArray⟩) 9 trivial).drew;clear sZ gP fZ;refine dK [[.calm 0 false,.calm 1 false,.calm 4 false,.calm 5 false,.calm 6 false,.aB 2 none false,.aB 3 none false,.aB 7 none false,.calm 8 false]] none za za za za ?_;refine aW [_,_,_,_,_,_,_,_,_] fun K hK=>?_
 first
 |cases(zu:Zt 0);go_wp2_with(first|(at_builtin;refine gF rfl (.tmp 38) (.tmp 40) rfl wr.heap.size _ ([]++l.take l.length) rfl bW.out [s] _ _ rfl HM.out z1C H7.out dz.size ?_;intro v2 w2 kV bK _;have aS:=aa (gY dz.out bW.out ae dz.size bK);have dm:=aa kV;clear kV bK)|(at_builtin;refine gF rfl (.tmp 41) (.tmp 44) rfl wr.heap.size _ ([]++l.take l.length++[s]) rfl dm.out (l.drop l.length) _ _ rfl (Sl.keep CR.out fun q _ hq=>aS.block q hq) (fun x hx=>nZ.out x (List.mem_of_mem_drop hx)) H8.out aS.size ?_;intro v3 w3 uD aO _;have di:=aa (gY aS.out dm.out ae aS.size aO);have p8:=aa uD;clear uD aO));exact zbN (zt 5)
 |cases(zu:Zt 1);go_wp2_with(first|(at_builtin;refine gF rfl (.tmp 38) (.tmp 40) rfl wr.heap.size _ ([]++l.take k) rfl bW.out [s] _ _ rfl HM.out z1C H7.out dz.size ?_;intro v2 w2 kV bK _;have aS:=aa (gY dz.out bW.out ae dz.size bK);have dm:=aa kV;clear kV bK)|(at_builtin;refine gF rfl (.tmp 41) (.tmp 44) rfl wr.heap.size _ ([]++l.take k++[s]) rfl dm.out (l.drop k) _ _ rfl (Sl.keep CR.out fun q _ hq=>aS.block q hq) (fun x hx=>nZ.out x (List.mem_of_mem_drop hx)) H8.out aS.size ?_;intro v3 w3 uD aO _;have di:=aa (gY aS.out dm.out ae aS.size aO);have p8:=aa uD;clear uD aO));exact zbN (zt 6)
 |cases(zu:Zt 2);go_wp2_with(first|(at_builtin;refine gF rfl (.tmp 38) (.tmp 40) rfl wr.heap.size _ ([]++([]:List (List UInt8)).take 0) rfl bW.out [s] _ _ rfl HM.out z1C H7.out dz.size ?_;intro v2 w2 kV bK _;have aS:=aa (gY dz.out bW.out ae dz.size bK);have dm:=aa kV;clear kV bK)|(at_builtin;refine gF rfl (.tmp 41) (.tmp 44) rfl wr.heap.size _ ([]++([]:List (List UInt8)).take 0++[s]) rfl dm.out (([]:List (List UInt8)).drop 0) _ _ rfl (Sl.keep CR.out fun q _ hq=>aS.block q hq) (fun x hx=>nZ.out x (List.mem_of_mem_drop hx)) H8.out aS.size ?_;intro v3 w3 uD aO _;have di:=aa (gY aS.out dm.out ae aS.size aO);have p8:=aa uD;clear uD aO));exact zbN (zt 7)):P:=h t
theorem zae (t:Q) (h:Q→P:=by
 intro zu;refine aZ [_] fun K hK=>?_;go_wp2_with fail;refine(LZ B g nn wq HF.dw zZ zZ).mono ?_;rintro e5 wz ⟨⟨_,rfl,cse,se,rfl,oN,_⟩,uM,jP⟩;obtain⟨sep,Cf,iV,_⟩:=id oN;simp only[iv,sv] at Cf;subst Cf;obtain⟨A6,c6,rfl,_,_⟩:=iV.open_
 first
   | (have qX:=aa (iZ.weaken (bS:=fun q=>S≤q∧q≠ng) oN (fun q hq _=>⟨af gQ.out hq,z1w⟩));replace dh:=aa (dh.next bM (Nat.lt_trans HF.gw (Nat.lt_of_le_of_lt HF.wN HF.NM)) jP))
   | have qX:=aa (iZ.weaken (bS:=fun q=>S≤q) oN (fun q hq _=>af gQ.out hq))
 replace HX:=ag ((az lvl).keep HX.1 (fun q hq hl=>jP.block q hl (fun e=>qF.out q z1z (by injection e)))) HX.2;generalize se.split.length=n6 at*;generalize mJ:se.var=pG at*;generalize lL:se.kind=pJ at*;generalize xx:se.iq=pK at*;generalize xw:se.aN=pI at*;clear oN iV mJ lL xx xw;replace HF:=aa (HF.next bM uM jP);replace gQ:=aa (af gQ.out jP.size);clear uM;go_wp2_with fail;refine ay.go hK ⟨jP,?_⟩;clear hK K
 first
 |cases(zu:Zt 0);clear jP;exact z9W
 |cases(zu:Zt 1);refine au ?_;show aA _ _ _ _ _ _ _ _ _;clear jP;exact zbF (zt 7)):P:=h t
theorem zaf (t:Q) (h:Q→P:=by
 intro zu;obtain⟨⟨⟨⟨h1,h2⟩,h3⟩,h5⟩,h4⟩:=hB;have h1:=of_decide_eq_true h1;have hr:Region.ready md ops V=[e]:=z56;obtain⟨n,rfl⟩:∃n,fuel=n+1:=⟨fuel-1,z7⟩;have Bi:e∈Region.ready md ops V:=z2E;have Bv:(V.setIfInBounds e true).getD e false=true:=z50;have hcs:=hc.set Bi;refine⟨fun h0=>z3Q,fun j hj=>?_⟩;rw[hr,List.mem_singleton] at hj;subst hj;refine rq ?_;refine(?_:jE P ops j _ a w);have tF:(if kb then wf else w)=wf:=z9f;unfold iJ at h;rw[tF] at h;unfold jE at h⊢
 first
 |cases(zu:Zt 0);split at h
  ·exact h.elim
  ·rename_i o ho;have key:∀a2 w2,((dN j t=true→Below wf.heap.size wf w2)∧iJ P ops QE r t' k (if k then wf else w2) a2 w2)→fP (jT d (.aB j t' k::r)) t wf w (V.setIfInBounds j true) w2∧iY P md ops Q (fP (jT d (.aB j t' k::r)) t wf w) n (V.setIfInBounds j true) a2 w2:=z9b;exact z6Y
 |cases(zu:Zt 1);split at h
  ·exact h.elim
  ·rename_i o ho;have key:∀a2 w2,((dN j t=true→mE.R wf w2)∧iJ P ops QE r t' k (if k then wf else w2) a2 w2)→fP (jT d (.aB j t' k::r)) t wf w (V.setIfInBounds j true) w2∧iY P md ops Q (fP (jT d (.aB j t' k::r)) t wf w) n (V.setIfInBounds j true) a2 w2:=z9b;exact z6Y
 |cases(zu:Zt 2);split at h
  ·exact h.elim
  ·rename_i o ho
   have key:∀a2 w2,((dN j t=true→Below wf.heap.size wf w2)∧iJ P ops (Q .normal) r t' k (if k then wf else w2) a2 w2)→JO (Dx ops.size (.aB j t' k::r)) t wf w (V.setIfInBounds j true) w2∧iY P md ops Q (JO (Dx ops.size (.aB j t' k::r)) t wf w) n (V.setIfInBounds j true) a2 w2:=by
    intro a2 w2 h;have bT:k=true→Old wf w2:=fun hk=>Old.below (h.1 z1x)
    have ih:=sound hs hQ r t' k n (V.setIfInBounds j true) a2 (if k then wf else w2) w2 (by
      cases k with
      | false=>exact Old.refl _
      | true=>exact bT rfl) (fun hk=>z1n) hcs h4 h.2
    have hn:Dx ops.size (.aB j t' k::r)=j:=rfl;rw[hn];have ht:∀L W,L.getD j false=true→(∀t0,t=some t0→t0≠j→L.getD t0 false=false→Old wf W)→JO j t wf w L W:=z6F;exact z9R
   exact z6Y):P:=h t
theorem zag (t:Q) (h:Q→P:=by intro zu;exact zaN (zt 0)):P:=h t
theorem zah (t:Q) (h:Q→P:=by intro zu;exact zbx (zt 9)):P:=h t
theorem zai (t:Q) (h:Q→P:=by
 intro zu;refine aZ [_] fun K hK=>?_;go_wp2_with(refine iy rfl 145 9 rfl ?_;intro wz hm hb hsz;have gp:=ag hm (ai hb hsz);clear hm hb hsz);have kE:=aa gp.1;have OT:=aa HB.size;try have GJ:=aa (show md≠wq.heap.size from z2J)
 try have Gx:=aa (show ∀k,gm k→k≠wq.heap.size from fun k hk e=>z1d)
 try replace mK:=aa (fun k (hk:gm k)=>Nat.lt_of_lt_of_le (mK.out k hk) gp.2.1.size)
 try replace qD:=aa (qD.below ax gp.2.1)
 try replace aK:=aa (aK.below gp.2.1)
 replace HB:=aa (bt HB.out gp.2.1);refine ay.go hK ⟨gp.2.1,?_⟩;clear hK K
 first
 |cases(zu:Zt 0);refine au ?_;show aA _ _ _ _ _ _ _ _ _;clear gp;generalize wq.heap.size=mo at*;exact z9d
 |cases(zu:Zt 1);refine au ?_;show aA _ _ _ _ _ _ _ _ _;clear gp;generalize wq.heap.size=mo at*;exact z97
 |cases(zu:Zt 2);refine au ?_;show aA _ _ _ _ _ _ _ _ _;clear gp;generalize wq.heap.size=mo at*;exact zbF (zt 5)
 |cases(zu:Zt 3);clear gp;generalize wq.heap.size=mo at*;exact z67):P:=h t
theorem zaj (t:Q) (h:Q→P:=by intro zu;clear f0 f1 f2 f3 f4 q3;replace HE:=aa (HE.toTsB.uA HN.out HL.out);clear HL;generalize ((w3.alloc (.cells #[iv x.kind,iv x.num,sv x.text,.slice A9 n9 c9] 60)).setCell ⟨w4.heap.size,3,none⟩ (.slice (some ⟨w3.heap.size,0,none⟩) 1 1))=wu at*;obtain⟨f0,f1,f2,f3,f4⟩:=HE.b6.c5;exact zaY (zt 4)):P:=h t
theorem zak (t:Q) (h:Q→P:=by
 intro zu;refine aZ [_] fun K hK=>?_;go_wp2_with fail;refine(O4 (fun k=>k<w.heap.size∧k≠g) [.string ⟨x.aN.toArray⟩,.string ⟨x.eQ.toArray⟩,.int .i64 x.hold,.slice Aa na ka,.slice As ns ks,.slice Af nf kf,.slice Al nl kl,.slice Ax nx kx] x wq (bI.out _ (sw.out _ (Fs.out _ (Fq.out _ HF.p).1.1).1).1).2.2).mono ?_;rintro e3 wz ⟨⟨v3,rfl,eY⟩,bY⟩
 first
   | (have tL:=aa (eY.weaken (bS:=fun q=>S≤q∧q≠ng) ax z7 (fun q hq _=>⟨af gQ.out hq,z1w⟩));replace dh:=aa (dh.below bM bY))
   | have tL:=aa (eY.weaken (bS:=fun q=>S≤q) ax z7 (fun q hq _=>af gQ.out hq))
 obtain⟨As3,Fa,rfl,_,_⟩:=eY.open_;have XE:=aa (show(x.cK.map gJ.key).length≤8 from z3u);clear eY;generalize x.cK.map gJ.key=FH at*;generalize BX:FH.length=YQ at*;have yQ:=aa BX;clear BX;replace HF:=aa (HF.below bM bY);replace gQ:=aa (af gQ.out bY.size);go_wp2_with fail;refine ay.go hK ⟨(aQ bY _),?_⟩;clear hK K
 first
 |cases(zu:Zt 0);clear bY;exact z9M
 |cases(zu:Zt 1);refine au ?_;show aA _ _ _ _ _ _ _ _ _;clear bY;exact zbF (zt 4)):P:=h t
theorem zal (t:Q) (h:Q→P:=by
 intro zu;have bR:k<kids.length:=z1p;obtain⟨ad,cs,had,aY,aI,Bz,hcell⟩:=(jB.wr (az d) z7 Jv).at_ bR;injection had with had;subst had;obtain⟨z0,z1,z2,z3,z4,rfl⟩:=tV aI;obtain⟨e0,e1,e2,e3,e4⟩:=cells5 hcell;have HK:=ag Bz (HX.2 _ (List.getElem_mem bR));have HAW:=aa (HA.wr (az D) z7 Jv);generalize kids[k]'bR=y at HK;clear hcell Bz aI WC hid Jv yc Jh aY;have dY:(k:Int)<(n2:Int):=z7;go_wp2_with fail;refine(IH.out ow (l++m) _ y _ HR.1 Cw.out HK.1 HK.2 HAW.out).mono ?_;rintro e6 w6 ⟨EJ,O6,m6,rfl,TI,QN,K6⟩;have fF:=K6.blk HR.2.2.2.1 HR.2.2.2.2;have H6:=ag TI (ai QN (ai (HR.2.2.1.trans K6) fF));obtain⟨d0,d1,d2,d3,d4⟩:=fF.1.c5;have HI6:Hid (pV (l++m++m6) id):=aa (HR.2.1.mono _);have bL:Hid (base≤w6.heap.size):=aa (af Cw.out K6.size);clear TI QN K6 fF c0 c1 c2 c3 c4 e0 e1 e2 e3 e4;go_wp2_with fail
 first
 |cases(zu:Zt 0);refine(aeA g b base O6 (l++m++m6) id EJ w6 H6.1 bL.out HI6.out H6.2.1).mono ?_;exact z6K
 |cases(zu:Zt 1);refine(VC g b base O6 (l++m++m6) id EJ w6 H6.1 bL.out HI6.out H6.2.1).mono ?_;exact z6K):P:=h t
theorem zam (t:Q) (h:Q→P:=by
 intro zu;replace HQ:=aa (HQ.next kP dZ);replace lH:=aa (lH.grown dZ zB);try replace dh:=aa (dh.grown dZ zv)
 try replace iO:=aa (iO.grown aT dZ (fun q hq h=>zT))
 go_wp2_with fail;refine ay.go hK ⟨dZ,?_⟩;clear hK K
 first
 |cases(zu:Zt 0);refine au ?_;show aA _ _ _ _ _ _ _ _ _;clear kP dZ;obtain⟨wq,rfl⟩:∃z,z=wz:=⟨_,rfl⟩;refine cmEa1 ?_;generalize (1+(r5:Int))=st at*;clear vC;refine au ?_;refine⟨?_,?_⟩;rotate_left;next=>exact za9 (zt 3)
  exact zb2 (zt 1)
 |cases(zu:Zt 1);refine au ?_;show aA _ _ _ _ _ _ _ _ _;clear kP dZ;exact zbF (zt 9)
 |cases(zu:Zt 2);refine au ?_;show aA _ _ _ _ _ _ _ _ _;exact zb5 (zt 1)
 |cases(zu:Zt 3);exact zb5 (zt 0)
 |cases(zu:Zt 4);clear kP dZ;exact z5Z
 |cases(zu:Zt 5);clear kP dZ;obtain⟨wq,rfl⟩:∃z,z=wz:=⟨_,rfl⟩;refine cmEa1 ?_;generalize (1+(r5:Int))=st at*;clear vC;exact z9N):P:=h t
theorem zan (t:Q) (h:Q→P:=by
 intro zu;have U3:=aa (RW.alloc (rZ.drewN nq) (.cells #[.int .i64 (b:Int),.int .i64 ((b:Int)+1),.int .i64 ((q:Int)+1)] 71));go_wp2_with(at_builtin;refine gT _ rfl (.tmp 119) (.tmp 127) _ rfl (gO+1) 71 i71 _ 3 24 underlying42 abK abE abG abN rfl z7 _ _ _ rfl HO.out _ _ _ _ rfl HW.out zV z2q z5y z2M ?_;intro v2 w2 pM bK pz)
 first
 |cases(zu:Zt 0);go_roundw
  case rel=>
   have X:∃(b' rz:Nat) (g' xC:Nat→Nat) (out':List RG),Value.int .i64 (tu:Int)= .int .i64 (rz:Int)∧Value.int .i64 ((b:Int)+1)= .int .i64 (b':Int)∧b'≤10000∧rz≤9∧RW w w2 gH gO g' xC∧rX 10000 k (rU ws) f b' rz g' xC∧sJ g' b' out'∧JG out'∧Rr w2 (gO+1) v2 out'∧out'.length≤b':=by
    refine⟨b+1,tu,g,mf,[]++[⟨(b:Int),(b:Int)+1,(g b:Int)⟩],zd,zd,z7,Hq,U3.out.grown' bK (fun k hk=>?_),HQ.out,HR.1.more (.inl rfl),HR.2.1.snoc _ ?_,?_,?_⟩
    ·exact z7W
    ·exact z7D
    ·exact z6M
    ·exact z79
   exact z6w
  case measure=>exact z9L
 |cases(zu:Zt 1);go_roundw
  case rel=>
   have X:∃(b' rz:Nat) (g' xC:Nat→Nat) (out':List RG),Value.int .i64 ((q:Int)+1)= .int .i64 (rz:Int)∧Value.int .i64 ((b:Int)+1)= .int .i64 (b':Int)∧b'≤10000∧rz≤9∧RW w w2 gH gO g' xC∧rX 10000 k (rU ws) f b' rz g' xC∧sJ g' b' out'∧JG out'∧Rr w2 (gO+1) v2 out'∧out'.length≤b':=by
    refine⟨b+1,(q+1),g,mf,[]++[⟨(b:Int),(b:Int)+1,(g b:Int)⟩],zd,zd,z7,Hq,U3.out.grown' bK (fun k hk=>?_),HQ.out,HR.1.more (.inl rfl),HR.2.1.snoc _ ?_,?_,?_⟩
    ·exact z7W
    ·exact z7D
    ·exact z6M
    ·exact z79
   exact z6w
  case measure=>exact z9L
 |cases(zu:Zt 2);go_roundw
  case rel=>
   have X:∃(b' rz:Nat) (g' xC:Nat→Nat) (out':List RG),Value.int .i64 (tu:Int)= .int .i64 (rz:Int)∧Value.int .i64 ((b:Int)+1)= .int .i64 (b':Int)∧b'≤10000∧rz≤9∧RW w w2 gH gO g' xC∧rX 10000 k (rU ws) f b' rz g' xC∧sJ g' b' out'∧JG out'∧Rr w2 (gO+1) v2 out'∧out'.length≤b':=by
    refine⟨b+1,tu,g,mf,(m++[r])++[⟨(b:Int),(b:Int)+1,(g b:Int)⟩],zd,zd,z7,Hq,U3.out.grown' bK (fun k hk=>?_),HQ.out,HR.1.more (.inr (fun e=>z2L)),HR.2.1.snoc _ ?_,?_,?_⟩
    ·exact z7W
    ·exact z7D
    ·exact z6M
    ·exact z79
   exact z6w
  case measure=>exact z9L
 |cases(zu:Zt 3);go_roundw
  case rel=>
   have X:∃(b' rz:Nat) (g' xC:Nat→Nat) (out':List RG),Value.int .i64 ((q:Int)+1)= .int .i64 (rz:Int)∧Value.int .i64 ((b:Int)+1)= .int .i64 (b':Int)∧b'≤10000∧rz≤9∧RW w w2 gH gO g' xC∧rX 10000 k (rU ws) f b' rz g' xC∧sJ g' b' out'∧JG out'∧Rr w2 (gO+1) v2 out'∧out'.length≤b':=by
    refine⟨b+1,(q+1),g,mf,(m++[r])++[⟨(b:Int),(b:Int)+1,(g b:Int)⟩],zd,zd,z7,Hq,U3.out.grown' bK (fun k hk=>?_),HQ.out,HR.1.more (.inr (fun e=>z2L)),HR.2.1.snoc _ ?_,?_,?_⟩
    ·exact z7W
    ·exact z7D
    ·exact z6M
    ·exact z79
   exact z6w
  case measure=>exact z9L):P:=h t
theorem zao (t:Q) (h:Q→P:=by
 intro zu;refine aZ [_] fun K hK=>?_;go_wp2_with fail;refine(NK B g wq HI.dw).mono ?_;rintro e3 wz ⟨⟨_,rfl,l2,hl,hn⟩,bF,aO⟩;have Hz:=HI.gE;have QU:=HI.En;have QS:=HI.wN;have QT:=HI.nr
 first
   | (have yS:=ag (hl.weaken (bS:=fun q=>wr.heap.size≤q∧q≠ng) ax z7 (fun q hq _=>⟨z1r,z2e⟩)) hn;replace HG:=ag (HG.1.grown aO z1m) (ai HG.2.1 (Nat.lt_of_lt_of_le HG.2.2 aO.size));replace HOW:=ag (HOW.1.grown dG aO (fun k hk=>z54)) HOW.2)
   | have yS:=ag (hl.weaken (bS:=fun q=>wr.heap.size≤q) ax z7 (fun q hq _=>z1r)) hn
 (replace jc:=ag (jc.1.grown ax aO (fun k hk=>z2t)) jc.2);obtain⟨A2,k2,rfl,_,_⟩:=hl.open_;generalize (l2).length=n2 at*;replace HI:=aa (HI.next bF aO);clear Hz QU QS QT hl hn bF;exact zcw (zt 7)):P:=h t
theorem zap (t:Q) (h:Q→P:=by
 intro zu;generalize kids[k]'aX=y at HY jf Cv;clear hcell Ck aI aX;go_upto_region 6 with(first|(refine eD 90 rfl lI ?_;intro w5 aV)|(refine bu 90 rfl wr.heap.size rfl rfl aV.1 bf ?_;intro w6 bI));have bL:Hid (Below wr.heap.size wr w6):=aC aV.2.1 aV.2.1.size bI.2 ae;have HOW:=aa (HR.ow.below (az lvl) bL.out);clear y0 y1 y2 y3 y4;obtain⟨y0,y1,y2,y3,y4⟩:=ah.c5 bI.1;obtain⟨Av,cv,rfl,_,_⟩:=HOW.open_;go_wp2_with fail;refine(vE base av _ _ [.int .i64 I7,.string ⟨Jb.toArray⟩,.string ⟨Ja.toArray⟩,.slice A5 n5 c5,.slice A6 n6 c6] y w6 (af pF.out (af HR.sz bL.size)) qI.out HOW.out ((az d).keep HY.out fun q _ hq=>bL.block q hq) z2A Cv.out jQ.out).mono ?_;rintro e7 w7 ⟨v7,rfl,Hr,eO,EP⟩;have Cj:Below base w w6:=HR.lo.trans (bL.mono (af pF.out HR.sz))
 first
 |cases(zu:Zt 0);have JL:=aa (show AtR d base av (l) kids (k+1) w w7 v7 from⟨z2B,Cj.trans eO,af HR.sz (af bL.size EP)⟩);exact z9Y
 |cases(zu:Zt 1);have JL:=aa (show AtR d base av ((l++[EX.mk op kind name vals kids])) kids (k+1) w w7 v7 from⟨z2B,Cj.trans eO,af HR.sz (af bL.size EP)⟩);exact z9Y):P:=h t
theorem zaq (t:Q) (h:Q→P:=by
 intro zu;refine aZ [_] fun K hK=>?_;go_wp2_with fail;have bU:=(Below.refl wq.heap.size wq).alloc ae (.cells #[.int .i64 0,.int .i64 y.hold] 134);have aK:=aa (SG wq 0 y.hold ⟨z7,z7⟩ HYH.out);try replace qY:=aa (qY.below' bU)
 try replace pX:=aa (pX.below bD bU)
 replace dM:=aa (bt dM.out bU);generalize wq.alloc (.cells #[.int .i64 0,.int .i64 y.hold] 134)=wz at*;refine ay.go hK ⟨bU,?_⟩;clear hK K
 first
 |cases(zu:Zt 0);exact zby (zt 10)
 |cases(zu:Zt 1);refine au ?_;show aA _ _ _ _ _ _ _ _ _;exact zby (zt 4)
 |cases(zu:Zt 2);refine au ?_;show aA _ _ _ _ _ _ _ _ _;exact zby (zt 9)):P:=h t
theorem zar (t:Q) (h:Q→P:=by
 intro zu;go_upto_region 1 with(first|(refine aD rfl 32 (.tmp 0) (by rfl) _ (by rfl) ?_;intro w1 hk hb hsz;have bJ:=ag (show ah w1 w.heap.size 32 #[.string ⟨v.aN.toArray⟩,.string ⟨v.eQ.toArray⟩,.int .i64 v.hold,.slice A1 n1 k1,.slice A2 n2 k2,.slice A3 n3 k3,.slice A4 n4 k4,.slice A5 n5 k5] from hk) (ai hb hsz);clear hk hb hsz)|(refine aD rfl 54 (.tmp 1) (by rfl) _ (by rfl) ?_;intro w2 hk hb hsz;have bV:=ag (show ah w2 w1.heap.size 54 #[.slice A0 ns jG] from hk) (ai hb hsz);clear hk hb hsz));have aS:=aa (bt bJ.2.1 bV.2.1);have HC:=aa (fun(W:World) (hW:Below w2.heap.size w2 W)=>ai (ah.c8 ((bJ.1.below' bV.2.1).below' hW)) (show W.cell? ⟨w1.heap.size,0,none⟩=some (.slice A0 ns jG) from(bV.1.below' hW).cell 0));clear bJ bV;obtain⟨⟨e0,e1,e2,e3,e4,e5,e6,e7⟩,s0⟩:=HC.out w2 aj
 first
 |cases(zu:Zt 0);by_cases hh:v.hold≤0
  ·go_wp2_with fail;go_ret;rw[agi hh];exact⟨rfl,aS.out⟩
  ·go_wp2_with fail;refine(Dn jb (.slice A0 ns jG) v.eQ s w2 (HS.below bG aS.out)).mono ?_;rintro e3_ w3 ⟨bY,iL⟩;have di:=ag bY (bt aS.out bY);clear e0 e1 e2 e3 e4 e5 e6 e7 s0 bY;rcases iL with⟨hn,rfl⟩|⟨x,A9,n9,c9,hsm,rfl⟩
   ·have HX:=aa (adX z7 hn);clear hn hh;obtain⟨⟨e0,e1,e2,e3,e4,e5,e6,e7⟩,s0⟩:=HC.out w3 di.1;exact zc1 (zt 0)
   ·have HX:=aa (adW z7 hsm);have nZ:=aa (HS.WU hsm);clear hsm hh;exact zc1 (zt 1)
 |cases(zu:Zt 1);have CO:Hid (v.cz.find? (fun x=>x.key==ek)=(v.cz.drop 0).find? (fun x=>x.key==ek)):=aa rfl;go_wp2_with fail;go_loopw [12] (fun i wr=>Bx (∃k:Nat,i= .int .i64 (k:Int)∧k≤n5∧v.cz.find? (fun x=>x.key==ek)=(v.cz.drop k).find? (fun x=>x.key==ek)∧Below w2.heap.size w2 wr)) (fun i _=>n5-(intOf i).toNat);case atStart=>exact z9G
  case round=>
   clear CO e0 e1 e2 e3 e4 e5 e6 e7 s0;obtain⟨⟨k,rfl,hk,iL,hB⟩⟩:=hrel;have HB:=ag hB (bt aS.out hB);have rf:=aa iL;clear hB iL;by_cases hlt:k<n5
   ·have dY:(k:Int)<(n5:Int):=z7;have aX:k<v.cz.length:=z1N;obtain⟨ad,cs,had,aY,aI,hR,hcell⟩:=(HL.2.below fC HB.2).at_ aX;subst had;obtain⟨B1,m1,d1,B2,m2,d2,op,kd,nm,B3,m3,d3,B4,m4,d4,rfl,_,_,hce,_⟩:=Db hR;obtain⟨e0,e1,e2,e3,e4,e5,e6,e7,e8,e9,fe,iD⟩:=pU hcell;have uJ:=aa hce;have ui:=aa (fun h=>Dl (p:=fun x:XP=>x.key==ek) aX rf.out h);have kY:=aa (fun h=>BA (p:=fun x:XP=>x.key==ek) aX rf.out h);clear hcell aI hR aY hce rf;generalize v.cz[k]'aX=y at*;clear aX;go_upto_region 4 with(first|(refine eD 92 rfl PT ?_;intro w5 aV)|(refine bu 92 rfl wr.heap.size rfl rfl aV.1 iP ?_;intro w6 bI));have dE:Below wr.heap.size wr w6:=aC aV.2.1 aV.2.1.size bI.2 ae;have bL:=ag (bt HB.1 dE) (bt HB.2 dE);have Dr:=aa ((az lvl).keep uJ.out fun q _ hq=>dE.block q hq);clear e0 e1 e2 e3 e4 e5 e6 e7 e8 e9 fe iD dE uJ;have Gf:ah w6 wr.heap.size 92 #[.string ⟨y.key.toArray⟩,.string ⟨y.layer.toArray⟩,.string ⟨y.flag.toArray⟩,.string ⟨y.aN.toArray⟩,.int .i64 y.status,.slice B1 m1 d1,.slice B2 m2 d2,.int .i64 op,.string ⟨kd.toArray⟩,.string ⟨nm.toArray⟩,.slice B3 m3 d3,.slice B4 m4 d4]:=bI.1;have CW:=aa Gf;clear aV bI Gf;obtain⟨x0,x1,x2,x3,x4,x5,x6,x7,x8,x9,qQ,uj⟩:=CW.c12;cases hq:(y.key==ek) with
    |true=>have HX:Hid (Ab v s ek=iM s (gV v.cK s) lvl y.cond):=aa (by unfold Ab;rw[ui.out hq]);clear ui kY;go_upto_region 5 with fail;have Et:=ag bL.1.drew bL.2.drew;have Ru:Hid (ah w6.drew wr.heap.size 92 #[.string ⟨y.key.toArray⟩,.string ⟨y.layer.toArray⟩,.string ⟨y.flag.toArray⟩,.string ⟨y.aN.toArray⟩,.int .i64 y.status,.slice B1 m1 d1,.slice B2 m2 d2,.int .i64 op,.string ⟨kd.toArray⟩,.string ⟨nm.toArray⟩,.slice B3 m3 d3,.slice B4 m4 d4]):=CW.out;have HED:=aa (show eT lvl w6.drew av [.int .i64 op,.string ⟨kd.toArray⟩,.string ⟨nm.toArray⟩,.slice B3 m3 d3,.slice B4 m4 d4] y.cond from(az lvl).keep Dr.out fun q _ hq=>rfl);clear bL CW Dr x0 x1 x2 x3 x4 x5 x6 x7 x8 x9 qQ uj;refine dK [[.calm 0 false,.calm 1 false,.calm 2 false,.calm 3 false,.calm 5 false,.calm 6 false],[.aB 4 (some 7) false],[.aB 7 none false,.calm 8 false]] (some 7) za za za za ?_;generalize w6.drew=wq at Et Ru HED⊢;obtain⟨⟨e0,e1,e2,e3,e4,e5,e6,e7⟩,s0⟩:=HC.out wq Et.1;obtain⟨x0,x1,x2,x3,x4,x5,x6,x7,x8,x9,qQ,uj⟩:=Ru.c12;refine cmBa6 ?_;refine aZ [_] fun K hK=>?_;go_wp2_with fail;refine(X.kT av jb _ v.cK (.slice A0 ns jG) s wq (HL.1.below dG Et.2) HK.1 z36 (HS.below bG Et.2) (HT.below Et.2)).mono ?_;rintro e8 w8 ⟨⟨v8,rfl,hm8⟩,iR⟩;have dL:=ag (bt Et.1 iR) (bt Et.2 iR);have HM8:=aa hm8;have HE8:=aa ((az lvl).keep HED.out fun q _ hq=>iR.block q hq);clear e0 e1 e2 e3 e4 e5 e6 e7 s0 x0 x1 x2 x3 x4 x5 x6 x7 x8 x9 qQ uj hm8;go_wp2_with fail;refine ay.go hK ⟨iR,?_⟩;clear hK K;clear iR Et HED;refine aW [_,_] fun K hK=>?_;go_wp2_with fail;refine(abU s (gV v.cK s) lvl av jb _ (.slice A0 ns jG) v8 [.int .i64 op,.string ⟨kd.toArray⟩,.string ⟨nm.toArray⟩,.slice B3 m3 d3,.slice B4 m4 d4] y.cond w8 (HS.below bG dL.2) HM8.out HE8.out (HT.below dL.2)).mono ?_;rintro e9 w9 ⟨rfl,eu⟩;have dW:=aa (bt dL.2 eu);clear eu;generalize iM s (gV v.cK s) lvl y.cond=b9 at*;exact zbB (zt 2)
    |false=>exact z7o
   ·have dY:¬(k:Int)<(n5:Int):=z7;have HX:Hid (Ab v s ek=false):=aa (by unfold Ab;rw[Dm z1N rf.out]);exact z8N):P:=h t
theorem zas (t:Q) (h:Q→P:=by
 intro zu;refine aW [_] fun K hK=>?_;go_wp2_with fail;have bU:=(Below.refl wq.heap.size wq).alloc ae (.cells #[.int .i64 op,.string ⟨kind.toArray⟩,.string ⟨name.toArray⟩,.slice A1 n1 k1,.slice A2 n2 k2] 90);have aK:=aa (Sl.made (w:=wq) (av:=fun _=>True) [.int .i64 op,.string ⟨kind.toArray⟩,.string ⟨name.toArray⟩,.slice A1 n1 k1,.slice A2 n2 k2] 90 (size:=5) rfl trivial);try replace bW:=aa (bW.alloc (az D) (.cells #[.int .i64 op,.string ⟨kind.toArray⟩,.string ⟨name.toArray⟩,.slice A1 n1 k1,.slice A2 n2 k2] 90))
 replace dM:=aa (bt dM.out bU);generalize wq.alloc (.cells #[.int .i64 op,.string ⟨kind.toArray⟩,.string ⟨name.toArray⟩,.slice A1 n1 k1,.slice A2 n2 k2] 90)=wz at*;refine ay.go hK ?_;clear hK K
 first
 |cases(zu:Zt 0);refine au ?_;show aA _ _ _ _ _ _ _ _ _;exact zby (zt 3)
 |cases(zu:Zt 1);exact zby (zt 2)):P:=h t
theorem zat (t:Q) (h:Q→P:=by
 intro zu;clear kP dZ;obtain⟨wq,rfl⟩:∃z,z=wz:=⟨_,rfl⟩;have wE:(r:Int)<(nf:Int):=z7;have hrn:r<x.flags.length:=by rw[Fv.out];exact hr
 obtain⟨ad,cs,had,aY,aI,Gl,hcell⟩:=(MW HQ.en).cB dF hrn;subst had;obtain⟨lZ,a1,A1,c1,a3,a4,A2,n2,c2,A3,n3,c3,A4,n4,c4,b0,b1,b2,b3,A5,n5,c5,rfl⟩:=Kv (Gl _ aj);have Tj:=Ld.out _ (List.getElem_mem hrn);have qE:=ag lZ Tj;obtain⟨x0,x1,x2,x3,x4,x5,x6,x7,x8,x9,qQ,uj,KH⟩:=vQ (hcell _ aj);generalize (x.flags[r]'hrn).vars.length=nv at x2 qE;generalize (x.flags[r]'hrn).key=fk at x0 qE;have abI:¬ad.block=g:=aY.2;clear hcell Gl aI lZ Tj aY hrn hr;refine cmBa1 ?_;refine cmDa1 ?_;clear x0 x1 x2 x3 x4 x5 x6 x7 x8 x9 qQ uj KH
 first
 |cases(zu:Zt 0);refine aZ [_] fun K hK=>?_;go_wp2_with(refine eD 46 rfl JP ?_;intro wz bH);have dh:=aa bH.1;have qF:=aa HQ.sz;replace HQ:=aa (HQ.below bH.2.1);refine ay.go hK ⟨(aQ bH.2.1 _),?_⟩;exact zcM (zt 1)
 |cases(zu:Zt 1);exact z6I):P:=h t
theorem zau (t:Q) (h:Q→P:=by
 intro zu;go_upto_region 10 with(first|(refine eD 142 rfl Lt ?_;intro wG iT)|(refine bu 142 rfl wF.heap.size rfl rfl iT.1 DV ?_;intro wH jy));have Ci:Below wF.heap.size wF wH:=aC iT.2.1 iT.2.1.size jy.2 ae;have jH:=ag (bt Cx.1 Ci) (ai (bt Cx.2.1 Ci) (bt Cx.2.2 Ci))
 first
 |cases(zu:Zt 0);clear iT jy Ci Cx;go_upto_region 14 with fail;exact z6c
 |cases(zu:Zt 1);exact zbX (zt 0)
 |cases(zu:Zt 2);clear iT jy Ci Cx;go_upto_region 14 with fail;exact z5M
 |cases(zu:Zt 3);exact zbX (zt 1)):P:=h t
theorem zav (t:Q) (h:Q→P:=by
 intro zu;refine aW [_] fun K hK=>?_;go_wp2_with fail;have rQ:Hid (ah (wq.setCell ⟨w4.heap.size,1,none⟩ (.string ⟨dd.kind.toArray⟩)) w4.heap.size 44 _∧wq.grownBy (wq.setCell ⟨w4.heap.size,1,none⟩ (.string ⟨dd.kind.toArray⟩)) (some w4.heap.size)):=aa ⟨HQ.2.1.bC 1 _,aR fD (.inl rfl) _⟩;replace Uo:Hid ((wq.setCell ⟨w4.heap.size,1,none⟩ (.string ⟨dd.kind.toArray⟩)).cell? ⟨(ad.add (kk*3)).block,(ad.add (kk*3)).off+1,none⟩=some (.string ⟨dd.name.toArray⟩)):=aa (Eq.trans (World.cell?_of_block (show _=_ from Below.heap_setCell wq ⟨w4.heap.size,1,none⟩ (.string ⟨dd.kind.toArray⟩) (ad.add (kk*3)).block iI.2)) Uo.out);refine ay.go hK ?_;clear hK K
 first
 |cases(zu:Zt 0);clear f1 q1;generalize wq.setCell ⟨w4.heap.size,1,none⟩ (.string ⟨dd.kind.toArray⟩)=ws at*;exact z6e
 |cases(zu:Zt 1);refine au ?_;show aA _ _ _ _ _ _ _ _ _;clear f1 q1;generalize wq.setCell ⟨w4.heap.size,1,none⟩ (.string ⟨dd.kind.toArray⟩)=ws at*;have e1:=Uo.out;refine cmBa1 ?_;clear e1;exact z6e):P:=h t
theorem zaw (t:Q) (h:Q→P:=by intro zu;go_wp2_with fail;refine(Qj _ hds _).mono ?_;rintro e3 w3 ⟨⟨n,c,rfl⟩,hb⟩;replace HP:=aa (HP.below hb);clear hb;have hP:=HP.out;exact zbZ (zt 0)):P:=h t
theorem zax (t:Q) (h:Q→P:=by
 intro zu;go_wp2_with(refine eD 124 rfl IQ ?_;intro wz bH);have dh:=aa (HF.fresh bM Ep.out uP.out bH.1 bH.2.1);replace HF:=aa (HF.below bM bH.2.1);replace gQ:=aa (af gQ.out bH.2.1.size);try replace tL:=aa ((tL.weaken ax (bS:=fun q=>S≤q∧q≠wq.heap.size) z7 (fun q hq hl=>⟨hq,z7⟩)).below ax bH.2.1)
 try replace HX:=ag ((az lvl).keep ((az lvl).weaken (bS:=fun q=>S≤q∧q≠wq.heap.size) HX.1 (fun q hq hl=>⟨hq,z7⟩)) (fun q _ hl=>bH.2.1.block q hl)) HX.2
 try replace qX:=aa (iZ.keep (iZ.weaken (bS:=fun q=>S≤q∧q≠wq.heap.size) qX.out (fun q hq hl=>⟨hq,z7⟩)) (fun q _ hl=>bH.2.1.block q hl))
 first
 |cases(zu:Zt 0);refine ay.go hK ?_;exact zcM (zt 0)
 |cases(zu:Zt 1);exact zbL (zt 1)):P:=h t
theorem zay (t:Q) (h:Q→P:=by
 intro zu;go_enter func90,ntmps90;go_wp2_with(first|(go_at_call_of 133 yes;refine(jm g b base own l yes _ HS.out HY.out).mono ?_;rintro e1 w1 ⟨rfl,hw⟩;replace hw:=hw.symm;subst hw)|(go_at_call_of 133 no;refine(jm g b base own l no _ HS.out HN.out).mono ?_;rintro e1 w1 ⟨rfl,hw⟩;replace hw:=hw.symm;subst hw)|(go_at_call_of 134 yes;refine(iF g b base own l yes _ HS.out (HY.of HP.1)).mono ?_;rintro e1 w1 ⟨rfl,hw⟩;replace hw:=hw.symm;subst hw)|(go_at_call_of 134 no;refine(iF g b base own l no _ HS.out (HN.of HP.2)).mono ?_;rintro e1 w1 ⟨rfl,hw⟩;replace hw:=hw.symm;subst hw));go_ret
 first
 |cases(zu:Zt 0);exact jw.same HS.out (.inl rfl) aj
 |cases(zu:Zt 1);exact jw.same HS.out HY.out aj):P:=h t
theorem zaz (t:Q) (h:Q→P:=by
 intro zu;refine aJ (.fork [[.calm 0 true,.calm 1 false],[.calm 2 true],[.calm 3 true,.calm 4 false],[.calm 5 true,.calm 7 false],[.calm 8 true]] 6 (some 11) false (.path [[.aB 9 (some 11) false],[.aB 10 (some 11) false],[.aB 11 none false]]) 9 (some 11) false (.path [[.aB 6 (some 11) false],[.aB 10 (some 11) false],[.aB 11 none false]])) (some 11) za za za ?_;show aA _ _ _ _ _ _ _ _ _;generalize fO:fU.drew=wq at*;refine cmDa2 ?_;refine cmDa1 ?_;refine cmDa2 ?_;refine cmDa2 ?_;refine cmDa1 ?_;clear b0 e0 e1 fO;refine au ?_
 first
 |cases(zu:Zt 0);refine⟨?_,?_⟩;rotate_left;next=>exact za5 (zt 0)
  have jq:(Instr.lookup 260 (.map (some bn)) (.string ⟨yf.toArray⟩) false).run prog wq= .ok (.slice none gk cf) wq:=z15;refine cmCc1 ?_;refine au ?_;show aA _ _ _ _ _ _ _ _ _;clear jq;exact za5 (zt 1)
 |cases(zu:Zt 1);refine⟨?_,?_⟩;rotate_left;next=>exact za5 (zt 2)
  have jq:(Instr.lookup 260 (.map (some bn)) (.string ⟨yf.toArray⟩) false).run prog wq= .ok (.slice (some ad) gk cf) wq:=z15;refine cmCc1 ?_;refine au ?_;show aA _ _ _ _ _ _ _ _ _;clear jq;exact za5 (zt 3)):P:=h t
theorem zaA (t:Q) (h:Q→P:=by
 intro zu;refine aW [_] fun K hK=>?_;go_wp2_with fail;have hrn:=HC.rn.below HB.out;have Ga:=hrn.su;have Jm:=hrn.fr;have o9:=hrn.en;rw[xL.out] at Ga;rw[HVF.out] at Jm;rw[uS.out] at o9;refine(Tc E.av E.av E.av _ E.v (.slice A0 ns k0) E.s (.slice AF nF kF) E.fo y.layer wq o9 hrn.sk hrn.s8 Ga Jm CP.out hrn.lu).mono ?_;rintro e6 wz ⟨hlp,dE⟩;obtain⟨a0,a1,b,arm,er,hh,rfl,lV⟩:=adm hlp;have wY:=aa lV;replace HB:=aa (bt HB.out dE);try replace dh:=aa (dh.below' dE)
 clear hlp lV hrn Ga Jm o9;go_wp2_with fail;refine ay.go hK ?_;clear hK K
 first
 |cases(zu:Zt 0);refine au ?_;show aA _ _ _ _ _ _ _ _ _;clear dE;obtain⟨wq,rfl⟩:∃z,z=wz:=⟨_,rfl⟩;refine cmBa3 ?_;refine aW [_] fun K hK=>?_;go_wp2_with(refine eD 192 rfl PV ?_;intro wz bH);have dh:=aa bH.1;have HNA:=aa HB.size;replace HB:=aa (bt HB.out bH.2.1);refine ay.go hK ?_;clear hK K;clear bH;generalize wq.heap.size=na at*;obtain⟨wq,rfl⟩:∃z,z=wz:=⟨_,rfl⟩;exact z6D
 |cases(zu:Zt 1);clear dE;obtain⟨wq,rfl⟩:∃z,z=wz:=⟨_,rfl⟩;refine cmBa3 ?_;exact z6D):P:=h t
theorem zaB (t:Q) (h:Q→P:=by
 intro zu;rintro e3 w3 ⟨Mm,bY⟩;have HK:=aa (show ah w3 w.heap.size 297 #[.int .i64 0,.int .i64 0,.int .i64 0]∧ah w3 w1.heap.size 297 #[.int .i64 a0,.int .i64 a1,.int .i64 a2]∧Below w.heap.size w w3 from⟨HK.1.below' bY,HK.2.1.below' bY,bt HK.2.2 bY⟩);have HP:=aa (HP.below' bY);clear c0 q0 p0 bY
 first
 |cases(zu:Zt 0);have c0:=HK.2.1.cell 1;have q0:=HK.2.1.frozen 1;simp only[List.getElem?_toArray,List.getElem?_cons_zero,List.getElem?_cons_succ] at c0;rcases Mm with⟨v,hv,rfl⟩|⟨hv,x,hx,rfl⟩
  ·by_cases hl:v<0
   ·have HW:Hid (kr s=none):=aa (qL HL.out (.inr <| .inl z2y));exact z9x
   ·by_cases hh:999999<v
    ·have HW:Hid (kr s=none):=aa (qL HL.out (.inr <| .inl z2z));exact z9x
    ·have HV:=aa (show jS pb=some v from z5k);clear hv;go_wp2_with fail;have mY:=ag (HK.1.far (p:=⟨w1.heap.size,1,none⟩) z2a (.int .i64 v)) (ai (HK.2.1.bC 1 (.int .i64 v)) (HK.2.2.setCell (p:=⟨w1.heap.size,1,none⟩) z2b (.int .i64 v)));have Lf:=aa (HP.far (p:=⟨w1.heap.size,1,none⟩) z29 (.int .i64 v));go_roundw;case rel=>exact⟨⟨1+1,a0,v,a2,zd,z7,mY.1,mY.2.1,mY.2.2,Lf.out,fun _=>oQ.out,fun _=>HV.out,fun h=>z7⟩⟩
     case measure=>simp[intOf]
  ·have Jf:(x !=0)=true:=z5g;have HW:Hid (kr s=none):=aa (qL HL.out (.inr <| .inl z5J));exact z9K
 |cases(zu:Zt 1);have c0:=HK.2.1.cell 2;have q0:=HK.2.1.frozen 2;simp only[List.getElem?_toArray,List.getElem?_cons_zero,List.getElem?_cons_succ] at c0;rcases Mm with⟨v,hv,rfl⟩|⟨hv,x,hx,rfl⟩
  ·by_cases hl:v<0
   ·have HW:Hid (kr s=none):=aa (qL HL.out (.inr <| .inr z2y));exact z9x
   ·by_cases hh:999999<v
    ·have HW:Hid (kr s=none):=aa (qL HL.out (.inr <| .inr z2z));exact z9x
    ·have HV:=aa (show jS pc=some v from z5k);clear hv;go_wp2_with fail;have mY:=ag (HK.1.far (p:=⟨w1.heap.size,2,none⟩) z2a (.int .i64 v)) (ai (HK.2.1.bC 2 (.int .i64 v)) (HK.2.2.setCell (p:=⟨w1.heap.size,2,none⟩) z2b (.int .i64 v)));have Lf:=aa (HP.far (p:=⟨w1.heap.size,2,none⟩) z29 (.int .i64 v));go_roundw;case rel=>exact⟨⟨2+1,a0,a1,v,zd,z7,mY.1,mY.2.1,mY.2.2,Lf.out,fun _=>oQ.1,fun _=>oQ.2,fun _=>HV.out⟩⟩
     case measure=>simp[intOf]
  ·have Jf:(x !=0)=true:=z5g;have HW:Hid (kr s=none):=aa (qL HL.out (.inr <| .inr z5J));exact z9K
 |cases(zu:Zt 2);have c0:=HK.2.1.cell 0;have q0:=HK.2.1.frozen 0;simp only[List.getElem?_toArray,List.getElem?_cons_zero,List.getElem?_cons_succ] at c0;rcases Mm with⟨v,hv,rfl⟩|⟨hv,x,hx,rfl⟩
  ·by_cases hl:v<0
   ·have HW:Hid (kr s=none):=aa (qL HL.out (.inl z2y));exact z9x
   ·by_cases hh:999999<v
    ·have HW:Hid (kr s=none):=aa (qL HL.out (.inl z2z));exact z9x
    ·have HV:=aa (show jS pa=some v from z5k);clear hv;go_wp2_with fail;have mY:=ag (HK.1.far (p:=⟨w1.heap.size,0,none⟩) z2a (.int .i64 v)) (ai (HK.2.1.bC 0 (.int .i64 v)) (HK.2.2.setCell (p:=⟨w1.heap.size,0,none⟩) z2b (.int .i64 v)));have Lf:=aa (HP.far (p:=⟨w1.heap.size,0,none⟩) z29 (.int .i64 v));go_roundw;case rel=>exact⟨⟨0+1,v,a1,a2,zd,z7,mY.1,mY.2.1,mY.2.2,Lf.out,fun _=>HV.out,fun h=>z7,fun h=>z7⟩⟩
     case measure=>simp[intOf]
  ·have Jf:(x !=0)=true:=z5g;have HW:Hid (kr s=none):=aa (qL HL.out (.inl z5J));exact z9K):P:=h t
theorem zaC (t:Q) (h:Q→P:=by
 intro zu;have a4:=mZ.cell 4;have z4:=mZ.frozen 4;simp only[List.getElem?_toArray,List.getElem?_cons_zero,List.getElem?_cons_succ] at a4;go_upto_region 16 with fail;have xH:=mZ.bC 4 (.bool true);simp only[List.setIfInBounds_toArray,List.set_cons_succ,List.set_cons_zero] at xH;have xO:=ag (kz.2.1.setCell (p:=⟨w7.heap.size,4,none⟩) dW.2.2 (.bool true)) (kz.2.2.setCell (p:=⟨w7.heap.size,4,none⟩) (af cZ.1.size dW.2.2) (.bool true));have GM:=aa xH;generalize wI.setCell ⟨w7.heap.size,4,none⟩ (.bool true)=wJ at*;clear a4 z4 xH
 first
 |cases(zu:Zt 0);clear a0 a1 a2 a3;exact z9Q
 |cases(zu:Zt 1);exact z9Q):P:=h t
theorem zaD (t:Q) (h:Q→P:=by intro zu;refine aJ (.path [[.calm 0 false],[.calm 1 true,.calm 2 false,.calm 3 false],[.calm 4 true],[.aB 5 (some 7) false],[.aB 6 (some 7) false],[.aB 7 none false],[.calm 8 false],[.aB 9 none false]]) (some 7) za za za ?_;exact zbf (zt 2)):P:=h t
theorem zaE (t:Q) (h:Q→P:=by
 intro zu;refine aZ [_] fun K hK=>?_;go_wp2_with fail;refine(vK g3 now wq qY.out).mono ?_;rintro e4 w6 ⟨⟨v6,l6,rfl,Cb,Br⟩,dE⟩;have pX:=aa Cb;try replace aK:=aa (aK.below bD dE)
 replace dM:=aa (bt dM.out dE);clear Cb Br;go_wp2_with fail;refine ay.go hK ⟨dE,?_⟩;clear hK K
 first
 |cases(zu:Zt 0);refine au ?_;show aA _ _ _ _ _ _ _ _ _;clear dE;obtain⟨wq,rfl⟩:∃z,z=w6:=⟨_,rfl⟩;exact z9O
 |cases(zu:Zt 1);clear dE;obtain⟨wq,rfl⟩:∃z,z=w6:=⟨_,rfl⟩;exact z5K
 |cases(zu:Zt 2);refine au ?_;show aA _ _ _ _ _ _ _ _ _;clear dE;obtain⟨wq,rfl⟩:∃z,z=w6:=⟨_,rfl⟩;refine cmCb1 ?_;exact z9O):P:=h t
theorem zaF (t:Q) (h:Q→P:=by
 intro zu;go_wp2_with(first|(refine aD rfl 32 _ rfl _ rfl ?_;intro w1 hk hb _;have HC:=aa (fun(W:World) (hW:Below w1.heap.size w1 W)=>(hk.below' hW).c8);have HW:=aa hb;have HB:=aa (Below.refl w1.heap.size w1);clear hk hb;obtain⟨c0,c1,c2,c3,c4,c5,c6,c7⟩:=HC.out _ HB.out))
 first
 |cases(zu:Zt 0);refine(Iz av _ v key w1 (fI.keep HE.out fun k _ hl=>HW.block k hl)).mono ?_;rintro e2 w2 ⟨hr,hb⟩;have aS:=aa hb;clear c0 c1 c2 c3 c4 c5 c6 c7 HB hb;rcases hr with rfl|⟨k,hk,rfl⟩
  ·go_wp2_with fail;go_ret;exact⟨⟨_,[],rfl,Ls.nil _ _,zd⟩,bt HW.out aS.out⟩
  ·have EY:(k:Int)<(n:Int):=z1U;obtain⟨ad,cs,had,aY,aI,hR,hcell⟩:=HL.cB iw hk;subst had;obtain⟨cv,hcs,hcv,pE,E8,Ea,hyh,Ju⟩:=hR _ aj;clear pE E8 Ea Ju;subst hcs;have yT:=aa (fun(W:World) (hW:Below w.heap.size w W)=>M6 (hcell W hW));have mO:=aa hcv;generalize v.layers[k]'hk=y at yT hcv hyh mO;have HYH:=aa hyh;obtain⟨A6,c6,rfl,_,_⟩:=hcv.open_;generalize hcq:y.vP.length=cq at yT mO;simp only[sv,iv] at yT;have uR:=aa hk;clear hcv hyh hR hcell aI hk hcq;obtain⟨c0,c1,c2,c3,c4,c5,c6,c7⟩:=HC.out _ aS.out;obtain⟨e0,e1,e2,e3,e4,e5⟩:=yT.out _ (bt HW.out aS.out);go_wp2_with fail;replace aS:=aa aS.drew;clear c0 c1 c2 c3 c4 c5 c6 c7 e0 e1 e2 e3 e4 e5;obtain⟨c0,c1,c2,c3,c4,c5,c6,c7⟩:=HC.out _ aS.out;obtain⟨e0,e1,e2,e3,e4,e5⟩:=yT.out _ (bt HW.out aS.out);refine aJ (.fork [[.calm 0 false,.calm 1 false,.calm 2 false,.calm 3 false,.calm 4 false,.calm 5 false,.calm 8 false,.calm 9 false,.calm 10 false,.calm 11 false,.calm 12 false,.calm 13 false,.calm 14 false,.calm 16 false]] 6 (some 18) false (.fork [] 7 (some 18) false (.path [[.aB 15 (some 18) false],[.aB 17 (some 18) false],[.aB 18 none false],[.calm 19 false]]) 15 (some 18) false (.fork [] 7 (some 18) false (.path [[.aB 17 (some 18) false],[.aB 18 none false],[.calm 19 false]]) 17 (some 18) false (.path [[.aB 7 (some 18) false],[.aB 18 none false],[.calm 19 false]]))) 15 (some 18) false (.fork [] 6 (some 18) false (.fork [] 7 (some 18) false (.path [[.aB 17 (some 18) false],[.aB 18 none false],[.calm 19 false]]) 17 (some 18) false (.path [[.aB 7 (some 18) false],[.aB 18 none false],[.calm 19 false]])) 17 (some 18) false (.path [[.aB 6 (some 18) false],[.aB 7 (some 18) false],[.aB 18 none false],[.calm 19 false]]))) (some 18) za za za ?_;show aA _ _ _ _ _ _ _ _ _;refine cmBa14 ?_;clear c0 c1 c2 c3 c4 c5 c6 c7 e0 e1 e2 e3 e4 e5;generalize w2.drew=qy at aS⊢;obtain⟨wq,fO⟩:∃z,z=qy:=⟨_,rfl⟩;have dM:Hid (Below qy.heap.size qy wq):=aa z2o;rw[←fO];clear fO;refine au ?_;refine⟨?_,?_⟩
   next=>
    refine cmCb1 ?_;refine au ?_;show aA _ _ _ _ _ _ _ _ _;refine au ?_;refine⟨?_,?_⟩;next=>exact zaq (zt 1)
    exact zb1 (zt 1)
   exact zb1 (zt 2)
 |cases(zu:Zt 1);go_loopw [3,4] (fun vo i wr=>∃(k:Nat) (Ao:Option Addr) (no co:Nat) (m:List (List UInt8 × List UInt8)),i= .int .i64 (k:Int)∧vo= .slice Ao no co∧k≤n∧Fh 2 Ih 216 w1.heap.size w1 wr (fun _=>False) (.slice Ao no co) m∧m.length≤k*8) (fun _ i _=>n-(intOf i).toNat);case atStart=>exact z8q
  case round=>
   clear HB c0 c1 c2 c3 c4 c5 c6 c7;obtain⟨k,Ao,no,co,m,rfl,rfl,hk,hP,hm⟩:=hrel;by_cases hlt:k<n
   ·have bR:k<x.flags.length:=zj;obtain⟨ad,cs,had,aY,aI,hR,hcell⟩:=HV.cB dF bR;subst had;have WH:=HK.out _ (List.getElem_mem bR);obtain⟨vv,nv,tv,rv,ce,hcs,_,KZ,_,_,hce,ht,_⟩:=hR _ aj;obtain⟨z0,z1,z2,z3,z4,rfl⟩:=tV (NC hce);exact zcP (zt 5)
   ·obtain rfl:k=n:=z7;obtain⟨c0,c1,c2,c3,c4,c5,c6,c7⟩:=HC.out _ hP.lo;have HP:=aa hP;have HM:=aa hm;clear hP hm;go_wp2_with fail;go_ret;have h8:=XA.out;have hm:=HM.out;exact⟨⟨_,m,rfl,HP.ow.ls pR z7 z7 (fun _ h _=>h.elim) (fun k hk=>by have:=(HP.ow.lt k hk).1;have:=HW.size;omega),z7⟩,bt HW.out HP.lo⟩
 |cases(zu:Zt 2);go_loopw [3,4] (fun vo i wr=>∃(k:Nat) (Ao:Option Addr) (co:Nat),i= .int .i64 (k:Int)∧vo= .slice Ao k co∧k≤n∧Fh 1 jh 9 w1.heap.size w1 wr (fun _=>False) (.slice Ao k co) ((x.flags.take k).map FL.key)) (fun _ i _=>n-(intOf i).toNat);case atStart=>exact z7R
  case round=>
   obtain⟨k,Ao,co,rfl,rfl,hk,hP⟩:=hrel;by_cases hlt:k<n
   ·skip;have bR:k<x.flags.length:=zj;obtain⟨ad,cs,had,aY,aI,hR,hcell⟩:=HV.cB dF bR;subst had;have rF:cs[0]? =some (sv (x.flags[k]'bR).key)∧Tl (x.flags[k]'bR).key:=by obtain⟨_,_,_,_,_,hcs,_,_,_,_,_,ht,_⟩:=hR _ aj;exact⟨z5B,ht⟩
    have e0:=cell0 (hcell _ (bt HW.out hP.lo)) rF.1;have JK:=aa rF.2;have HS:=aa (nE FL.key bR);generalize (x.flags[k]'bR).key=y at e0 JK HS;exact zbn (zt 2)
   ·skip;obtain rfl:k=n:=z7;obtain⟨c0,c1,c2,c3,c4,c5,c6,c7⟩:=HC.out _ hP.lo;go_wp2_with fail;go_ret;have iK:=hP.ow.ls ax (bS:=fun k=>w.heap.size≤k) z7 z1T (fun _ h _=>h.elim) (fun k hk=>by have:=(hP.ow.lt k hk).1;have:=HW.size;omega);rw[List.take_of_length_le zj] at iK;exact⟨⟨_,rfl,iK⟩,(bt HW.out hP.lo)⟩):P:=h t
theorem zaG (t:Q) (h:Q→P:=by
 intro zu;refine aW [_] fun K hK=>?_;go_wp2_with fail;have bU:=(Below.refl wq.heap.size wq).alloc ae (.cells #[.string ⟨y.2.toArray⟩] 9);have aK:=aa (Sl.single (w:=wq) (av:=fun _=>True) (.string ⟨y.2.toArray⟩) 9 trivial);replace iI:=aa (iI.below bU);try replace bW:=aa (bW.alloc ax (.cells #[.string ⟨y.2.toArray⟩] 9))
 replace dM:=aa (bt dM.out bU);generalize wq.alloc (.cells #[.string ⟨y.2.toArray⟩] 9)=wz at*;refine ay.go hK ?_;clear hK K
 first
 |cases(zu:Zt 0);refine au ?_;show aA _ _ _ _ _ _ _ _ _;exact zby (zt 1)
 |cases(zu:Zt 1);exact zby (zt 0)):P:=h t
theorem zaH (t:Q) (h:Q→P:=by
 intro zu;go_wp2_with(first|(refine aD rfl 90 _ rfl _ rfl ?_;intro w1 hk hb _;have HC:=aa (fun(W:World) (hW:Below w1.heap.size w1 W)=>(hk.below' hW).c5);have HW:=aa hb;have HB:=aa (Below.refl w1.heap.size w1);clear hk hb;obtain⟨c0,c1,c2,c3,c4⟩:=HC.out _ HB.out))
 first
 |cases(zu:Zt 0);go_quiet(fail);replace HB:=aa (below_drewN HB.out nq);clear c0 c1 c2 c3 c4;generalize w1.drewN nq=w2 at HB⊢;obtain⟨c0,c1,c2,c3,c4⟩:=HC.out _ HB.out;by_cases hop:9≤op∧op≤11
  ·have hi:decide (6≤op∧op≤15)=true:=decide_eq_true ⟨z7,z7⟩;have q2:(op==2)=false:=z4Y;have q3:(op==3)=false:=z4Y;have q4:(op==4)=false:=z4Y;have q8:(op==8)=false:=z4Y;have q5:(op==5)=false:=z4Y;have q6:(op !=6)=true:=z4Y;clear hop;cases hv:((n1:Int)==1)
   ·go_wp2_with(first|(go_at_call 103;refine(FI op _).mono ?_;rintro e3 w3 ⟨rfl,rfl⟩;rw[hi]))
    repeat' first
      | (go_ret
         exact⟨⟨false,rfl,fun h=>z1B⟩,bt HW.out HB.out⟩)
   ·go_wp2_with(first|(go_at_call 103;refine(FI op _).mono ?_;rintro e3 w3 ⟨rfl,rfl⟩;rw[hi]))
    repeat' first
      | (go_ret
         exact⟨⟨_,rfl,fun _ _ _=>by simp at hv;omega⟩,bt HW.out HB.out⟩)
  ·have HO:=aa hop;clear hop;go_wp2_with(first|(go_at_call 103;refine(aiR _ _).mono ?_;rintro e3 w3 ⟨⟨b,rfl⟩,rfl⟩;cases b))
   repeat' first
     | (go_ret
        refine⟨⟨_,rfl,?_⟩,bt HW.out HB.out⟩
        intro _ h9 WM
        have hO:=HO.out
        omega)
 |cases(zu:Zt 1);go_loopw [5] (fun i wr=>∃k:Nat,i= .int .i64 (k:Int)∧k≤n1∧Below w1.heap.size w1 wr) (fun i _=>n1-(intOf i).toNat);case atStart=>exact⟨0,rfl,z7,HB.out⟩
  case round=>
   clear HB c0 c1 c2 c3 c4;obtain⟨k,rfl,hk,hB⟩:=hrel;have HB:=aa hB;clear hB;obtain⟨c0,c1,c2,c3,c4⟩:=HC.out _ HB.out;by_cases hlt:k<n1
   ·skip;obtain⟨ad,cs,had,aY,aI,hR,hcell⟩:=yu.cB aL (show k<vals.length by have:=GH.out;omega);subst had;obtain⟨B,m,b,hcs,_⟩:=JQ (hR _ aj);subst hcs;obtain⟨e0,e1,e2,e3⟩:=mX (hcell _ (bt HW.out HB.out));generalize vals[k]'_=y at e0 e1 e2 e3;clear hcell hR aI;go_wp2_with fail
    repeat' first
      | (go_ret
         exact⟨⟨_,rfl⟩,bt HW.out z8⟩)
      | (go_roundw
         case rel=>exact⟨k+1,zd,z7,z8⟩
         case measure=>simp[intOf];omega)
      | (go_quiet(fail)
         go_wp2_with fail)
   ·obtain rfl:k=n1:=z7;exact z7q
 |cases(zu:Zt 2);go_ret;exact⟨⟨_,rfl⟩,bt HW.out z8⟩):P:=h t
theorem zaI (t:Q) (h:Q→P:=by
 intro zu;have bR:k<kids.length:=z1p;obtain⟨ad,cs,had,aY,aI,Bz,hcell⟩:=jB.cB (az d) bR;subst had;obtain⟨z0,z1,z2,z3,z4,rfl⟩:=tV aI;obtain⟨e0,e1,e2,e3,e4⟩:=cells5 (hcell _ (bt HW.out HB.out));have HK:=ag (Bz _ (bt HW.out HB.out)) (HX.2 _ (List.getElem_mem bR));generalize kids[k]'bR=y at HK;have hmul:(k+1)*dB d≤4*dB d:=Nat.mul_le_mul_right _ z3s;have F9:(k+1)*dB d=k*dB d+dB d:=Nat.succ_mul _ _
 first
 |cases(zu:Zt 0);have wZ:Hid (lr.length+dB d≤900000):=aa (by have:=qw.out;have:=iI.out;have:=XD.out;omega);have HS:=aa F9;clear hcell Bz aI hmul F9;go_wp2_with(first|(go_at_call 86;refine(IH.out (fun k=>av k∨w.heap.size≤k) _ y _ lr _ (Nat.le_of_succ_le HD.out) ((az d).weaken HK.1 fun q hq _=> .inl hq) HK.2 tN.out wZ.out).mono ?_;rintro e5 w5 ⟨⟨v5,l5,rfl,ik,iW⟩,hb⟩;have yR:=ag ik iW;have bA:=aa (bt HB.out hb);clear hb ik iW));obtain⟨A5,c5,rfl,_,_⟩:=yR.1.open_;go_roundw
  case rel=>
   refine⟨k+1,A5,c5,l5,zd,rfl,z7,yR.1.weaken (az D) z7 (fun q hq _=>?_),?_,bA.out⟩
   ·exact z9y
   ·have h1:=yR.2;have h2:=iI.out;have h3:=HS.out;have h4:=XD.out;omega
  case measure=>exact z9L
 |cases(zu:Zt 1);have wZ:Hid (l4.length+dB d≤1000000):=aa z4y;have HS:=aa F9;clear hcell Bz aI hmul F9;go_wp2_with(first|(go_at_call 145;refine(IH.out _ Fb _ y _ l4 _ HK.1 HK.2 tN.out wZ.out).mono ?_;rintro e5 w5 ⟨⟨v5,l5,rfl,ik,iW⟩,hb⟩;have yR:=ag ik iW;have bA:=aa (bt HB.out hb);clear hb ik iW));go_roundw
  case rel=>
   refine⟨k+1,zd,z7,⟨l5,yR.1.weaken ax z7 (fun q hq _=>?_),?_⟩,bA.out⟩
   ·exact z9y
   ·have h1:=yR.2;have h2:=iI.out;have h3:=HS.out;omega
  case measure=>exact z9L):P:=h t
theorem zaJ (t:Q) (h:Q→P:=by
 intro zu;refine cmBa3 ?_;refine cmFa4 ?_;refine cmGa2 ?_;refine cmFa2 ?_;refine cmFa1 ?_;refine cmBa1 ?_;refine cmBa4 ?_;refine cmFa2 ?_;refine cmFa1 ?_;refine cmCe1 ?_;refine cmBa1 ?_;refine cmGa3 ?_;refine au ?_;go_wp2_with fail;go_ret
 first
 |cases(zu:Zt 0);exact⟨false,st,rfl,CS.out,Wr.of_below _ (by rw[←fO];exact cZ.drew),fun _=>Iff.rfl,fun l=>by rw[if_neg zd];exact abu HN.out⟩
 |cases(zu:Zt 1);exact⟨false,st,rfl,CS.out,Wr.of_below _ cZ.out,fun _=>Iff.rfl,fun l=>by rw[if_neg zd];exact Ta rf.1 (.inl GD.out)⟩
 |cases(zu:Zt 2);exact⟨false,st,rfl,CS.out,Wr.of_below _ cZ.out,fun _=>Iff.rfl,fun l=>by rw[if_neg zd];exact Ta rf.1 (.inr Rs.out)⟩):P:=h t
theorem zaK (t:Q) (h:Q→P:=by
 intro zu;refine aJ (.path [[.calm 0 false],[.calm 1 true,.calm 2 false],[.calm 3 true,.calm 4 false],[.calm 5 true],[.aB 6 none false]]) none za za za ?_;show aA _ _ _ _ _ _ _ _ _;generalize wc.drew=wq at*;obtain⟨fo,Mo,Jm⟩:=HD.rn.op;have kE:=ag Mo Jm;clear Mo Jm;have g12:wq.cell? ⟨E.g,12,none⟩=some (.map (some E.mo)):=(HD.rn.row uS.out).cell 12;have f0:wq.cell? ⟨w.heap.size,0,none⟩=some (.string ⟨f.key.toArray⟩):=HD.f3.cell 0
 first
 |cases(zu:Zt 0);exact zaa (zt 2)
 |cases(zu:Zt 1);exact zaa (zt 3)):P:=h t
theorem zaL (t:Q) (h:Q→P:=by
 intro zu;refine dK [[.calm 0 false,.calm 1 false,.calm 2 false,.calm 3 false,.calm 4 false,.calm 5 false,.calm 6 false,.calm 7 false,.aB 8 none false,.calm 9 false]] none za za za za ?_;refine aW [_,_,_,_,_,_,_,_,_,_] fun K hK=>?_;go_wp2_with fail
 first
 |cases(zu:Zt 0);have dI:=bt lD.out HBe.out;refine(Qd (fun _=>True) _ y.serve _ x.attrs _ (iZ.weaken (iZ.keep HK.2 fun q _ hl=>dI.block q hl) fun _ _ _=>trivial) ((yu.below fJ dI).weaken fJ z7 fun _ _ _=>trivial)).mono ?_;rintro ez7 w7 ⟨⟨ne7,rfl⟩,eO⟩;have jR:=aa (bt HBe.out eO);have JL:=aa (dU HR6.drew HR6.size eO);clear c0 c1 c2 c3 c4 c5 c6 c7 f0 f1 f2 f3 f4 f5 f6 f7 f8 f9 f10 f11 f12 e0 e1 e2 e3 e4 e5 e6 e7 e8 e9 fe eO dI;exact zbB (zt 1)
 |cases(zu:Zt 1);refine(Q7 av jd _ _ y y2 _ HR.1 HR.2).mono ?_;rintro e5 w5 ⟨rfl,hb⟩;generalize decide (y=y2)=bb;exact z6L
 |cases(zu:Zt 2);refine(IH2.out av jd _ _ y y2 _ HR.1 HR.2).mono ?_;rintro e5 w5 ⟨⟨bb,rfl⟩,hb⟩;exact z6L):P:=h t
theorem zaM (t:Q) (h:Q→P:=by
 intro zu;go_wp2_with(refine bu 60 rfl w.heap.size rfl rfl HZ.1 kD ?_;intro w9 aG);refine bodyPost_ret (results_cell_row rfl _ _ w.heap.size 60 _ (0,0) _ rfl aG.1 underlying60 rfl AZ) rfl ?_
 first
 |cases(zu:Zt 0);exact⟨⟨_,rfl,[_,_,_,_],⟨2,q,[],[]⟩,rfl,_,rfl,Ls.nil _ _,show df 2 from⟨z7,z7⟩,HQ.out,zl⟩,qd.1.dV (jr aG.2 ae (Nat.le_of_lt HZ.1.lt)) HD.lt,dX HZ.2 (jr aG.2 ae (Nat.le_of_lt HZ.1.lt))⟩
 |cases(zu:Zt 1);exact⟨⟨_,rfl,[_,_,_,_],⟨3,0,s,[]⟩,rfl,_,rfl,Ls.nil _ _,show df 3 from⟨z7,z7⟩,show df 0 from⟨z7,z7⟩,qd.2⟩,qd.1.dV (jr aG.2 ae (Nat.le_of_lt HZ.1.lt)) HD.lt,dX HZ.2 (jr aG.2 ae (Nat.le_of_lt HZ.1.lt))⟩
 |cases(zu:Zt 2);exact⟨⟨_,rfl,[_,_,_,_],⟨4,0,s,[]⟩,rfl,_,rfl,Ls.nil _ _,show df 4 from⟨z7,z7⟩,show df 0 from⟨z7,z7⟩,HS.out⟩,qd.1.dV (jr aG.2 ae (Nat.le_of_lt HZ.1.lt)) HD.lt,dX HZ.2 (jr aG.2 ae (Nat.le_of_lt HZ.1.lt))⟩
 |cases(zu:Zt 3);exact⟨⟨_,rfl,[_,_,_,_],⟨1,(r:Int),[],[]⟩,rfl,_,rfl,Ls.nil _ _,show df 1 from⟨z7,z7⟩,show df (r:Int) from⟨z7,z4r⟩,zl⟩,qd.1.dV (jr aG.2 ae (Nat.le_of_lt HZ.1.lt)) HD.lt,dX HZ.2 (jr aG.2 ae (Nat.le_of_lt HZ.1.lt))⟩):P:=h t
theorem zaN (t:Q) (h:Q→P:=by
 intro zu;have hne:kids≠[]:=HX.1 z7;have Ca:0<kids.length:=List.length_pos_iff.2 hne;have akI:(0:Int)<(n2:Int):=z1p;have akH:1≤n2:=z7;obtain⟨ad0,cs0,WA,MI,MF,MM,xB⟩:=jB.cB (az d) Ca;subst WA;obtain⟨z0,z1,z2,z3,z4,rfl⟩:=tV MF;have Nj:=aa (HX.2 _ (List.getElem_mem Ca));generalize kids[0]'Ca=y0 at MM Nj;simp only[Nat.zero_mul,Ky] at xB;clear hne Ca MF MI;go_enter func59,ntmps59
 first
 |cases(zu:Zt 0);go_wp2_with(first|(refine aD rfl 90 _ rfl _ rfl ?_;intro w1 hk hb hsz;have HC:=aa hk;have HW:=aa hb;obtain⟨c0,c1,c2,c3,c4⟩:=hk.c5;have HE0:=aa (MM _ hb);obtain⟨e0,e1,e2,e3,e4⟩:=cells5 (xB _ hb);clear hk hb hsz MM xB)|(go_at_call 59;refine(IH.out own l _ y0 _ (HS.below HW.out) (af pF.out HW.size) HE0.out Nj.out (HA.below (az D) HW.out)).mono ?_;rintro e5 w5 ⟨VR,VB,m5,rfl,ML,Mw,yM⟩;have H5:=ag ML (ai Mw ((Wr.of_below own HW.out).trans yM));have fF:=yM.blk HC.out (fun h=>z3F);have XT:=aa fF;obtain⟨Uc,mD,ji,Ub,OG⟩:=fF.1.c5;clear ML Mw yM fF c0 c1 c2 c3 c4 e0 e1 e2 e3 e4))
  first
  |cases(zu:Zt 0);go_loopw [7,8] (fun f i wr=>∃(k:Nat) (id:Int) (ow:Nat→Prop) (m:List ND),i= .int .i64 (k:Int)∧f= .int .i64 id∧k≤n2∧1≤k∧St wr g b base ow (l++m)∧pV (l++m) id∧Wr own ow w wr∧ah wr w.heap.size 90 #[.int .i64 2,.string ⟨kind.toArray⟩,.string ⟨name.toArray⟩,.slice A1 n1 k1,.slice (some ad0) n2 k2]∧¬ow w.heap.size) (fun _ i _=>n2-(intOf i).toNat);case atStart=>exact z8n
   case round=>exact zbV (zt 0)
  |cases(zu:Zt 1);go_loopw [7,8] (fun f i wr=>∃(k:Nat) (id:Int) (ow:Nat→Prop) (m:List ND),i= .int .i64 (k:Int)∧f= .int .i64 id∧k≤n2∧1≤k∧St wr g b base ow (l++m)∧pV (l++m) id∧Wr own ow w wr∧ah wr w.heap.size 90 #[.int .i64 3,.string ⟨kind.toArray⟩,.string ⟨name.toArray⟩,.slice A1 n1 k1,.slice (some ad0) n2 k2]∧¬ow w.heap.size) (fun _ i _=>n2-(intOf i).toNat);case atStart=>exact z8n
   case round=>exact zbV (zt 1)
 |cases(zu:Zt 1);go_wp2_with(first|(refine aD rfl 90 _ rfl _ rfl ?_;intro w1 hk hb hsz;have HW:=aa hb;obtain⟨c0,c1,c2,c3,c4⟩:=hk.c5;have HE0:=aa (MM _ hb);obtain⟨e0,e1,e2,e3,e4⟩:=cells5 (xB _ hb);clear hk hb hsz MM xB)|(go_at_call 59;refine(IH.out own l _ y0 _ (HS.below HW.out) (af pF.out HW.size) HE0.out Nj.out (HA.below (az D) HW.out)).mono ?_;rintro e5 w5 ⟨VR,VB,m5,rfl,ML,Mw,yM⟩;have H5:=ag ML (ai Mw yM);clear ML Mw yM c0 c1 c2 c3 c4 e0 e1 e2 e3 e4)|(go_at_call 87;refine(ac6 g b base VB (l++m5) VR _ H5.1 (af pF.out (af HW.size H5.2.2.size)) H5.2.1).mono ?_;rintro e6 w6 ⟨EJ,O6,m6,rfl,h6⟩;have H6:=aa h6;clear h6));go_ret;exact jw.anf ((Wr.of_below own HW.out).trans H5.2.2) ⟨EJ,O6,m6,rfl,H6.out⟩):P:=h t
theorem zaO (t:Q) (h:Q→P:=by
 intro zu;go_wp2_with(first|(refine bz 92 _ _ rfl wr.heap.size _ rfl rfl 92 _ (ah.new _ _ _) iP rfl rfl rfl z4W ?_;intro wz dP bq;replace bq:=bq wr.heap.size wr ((Below.refl wr.heap.size wr).alloc ae _) ae;obtain⟨f0,f1,f2,f3,f4,f5,f6,f7,f8,f9,f10,f11⟩:=dP.c12;have dm:=ag (HO.1.below bD bq) (ai HO.2.1 (bt HO.2.2 bq));clear dP bq c0 c1 c2 c3 c4 c5 c6 c7 e0 e1 e2 e3 e4 e5 e6 e7 e8 e9 fe iD;obtain⟨c0,c1,c2,c3,c4,c5,c6,c7⟩:=HC.out _ dm.2.2))
 first
 |cases(zu:Zt 0);go_roundw;case rel=>exact⟨k+1,lo,zd,z7,dm.out⟩
  case measure=>exact z9L
 |cases(zu:Zt 1);refine(kS _ _ _ _ lo x.claims _ dm.1 (rR.below bD (bt HW.out dm.2.2))).mono ?_;rintro e8 w8 ⟨⟨v8,l8,rfl,Bt,pO⟩,iR⟩;have aF:=ag (Bt.weaken (bS:=fun b=>w.heap.size≤b) bD z7 (fun b hb _=>af HW.size (af dm.2.2.size hb))) (ai pO (bt dm.2.2 iR));clear Bt pO iR;go_wp2_with fail;go_roundw;case rel=>exact⟨k+1,l8,zd,z7,aF.out⟩
  case measure=>exact z9L):P:=h t
theorem zaP (t:Q) (h:Q→P:=by
 intro zu;refine aW [_] fun K hK=>?_;go_wp2_with fail;have V4:=HR.su.below bG HB.2.2;rw[xL.out] at V4;refine(Dn E.av (.slice A0 ns k0) y.kind E.s wq V4).mono ?_;rintro e6 wz ⟨dE,CG⟩;obtain⟨a0,a1,A,n,c,ok,rfl,qU⟩:=aat CG;have jA:=aa qU;replace HB:=ag (bt HB.1 dE) (ai (HB.2.1.below' dE) (bt HB.2.2 dE));try replace dh:=aa (dh.below' dE)
 clear CG qU V4;go_wp2_with fail;refine ay.go hK ?_;clear hK K
 first
 |cases(zu:Zt 0);refine au ?_;show aA _ _ _ _ _ _ _ _ _;clear dE;obtain⟨wq,rfl⟩:∃z,z=wz:=⟨_,rfl⟩;refine cmBa3 ?_;refine aW [_] fun K hK=>?_;exact zbW (zt 0)
 |cases(zu:Zt 1);clear dE;obtain⟨wq,rfl⟩:∃z,z=wz:=⟨_,rfl⟩;refine cmBa3 ?_;exact z6G):P:=h t
theorem zaQ (t:Q) (h:Q→P:=by intro zu;refine dK [[.calm 0 false],[.calm 1 true,.calm 2 false,.calm 3 false,.calm 4 false,.aB 5 none false,.calm 6 false,.calm 7 false,.calm 8 false,.calm 9 false,.calm 10 false]] none za za za za ?_;exact zbx (zt 0)):P:=h t
theorem zaR (t:Q) (h:Q→P:=by
 intro zu;go_wp2_with(refine eD 64 rfl DK ?_;intro wz bH);have dh:=aa bH.1;have bA:=aa HQ.2.2.1;replace HQ:=aa (show Rn E st wz∧Below w.heap.size w wz∧w2.heap.size≤wz.heap.size∧ah wz w.heap.size 46 _∧ah wz w1.heap.size 64 _ from⟨HQ.1.below bH.2.1,bt HQ.2.1 bH.2.1,af HQ.2.2.1 bH.2.1.size,HQ.2.2.2.1.below' bH.2.1,HQ.2.2.2.2.below' bH.2.1⟩);try replace wY:=aa (Uu.keep wY.out (fun k hk=>bH.2.1.block k z2Q))
 first
 |cases(zu:Zt 0);exact zcx (zt 0)
 |cases(zu:Zt 1);refine ay.go hK ?_;clear hK K;clear bH;generalize wq.heap.size=b5 at*;obtain⟨wq,rfl⟩:∃z,z=wz:=⟨_,rfl⟩;exact z6l):P:=h t
theorem zaS (t:Q) (h:Q→P:=by
 intro zu;obtain⟨⟨e0,e1,e2,e3,e4,e5,e6,e7⟩,s0,y0⟩:=HC.out wH jH.2.1;go_wp2_with fail;refine(Km av jb _ v (.slice A0 ns jG) s wH (fI.keep HV.out fun q _ hq=>jH.2.2.block q hq) (HS.below bG jH.2.2)).mono ?_;rintro eH wI ⟨rfl,rH⟩;have kz:=ag (bt jH.1 rH) (ai (bt jH.2.1 rH) (bt jH.2.2 rH));have mZ:=aa (uq.below' kz.1);clear e0 e1 e2 e3 e4 e5 e6 e7 s0 y0 rH jH;generalize Mx:uW bB v s=bh at*;have XI:=aa Mx;clear Mx
 first
 |cases(zu:Zt 0);have HX:Hid (gL bB v s fo key=some ([],0)):=aa (by rw[HR.out,SL HN.out]);cases bh
  ·obtain⟨a0,a1,a2,a3,a4⟩:=ah.c5 (mZ.out);go_wp2_with(refine bu 192 rfl w3.heap.size rfl rfl (Eu.below' (kz.2).1) lK ?_;intro wz kR);refine bodyPost_ret (o7 rfl rfl rfl kR.1) rfl ?_;exact⟨Or.inr ⟨_,_,_,_,HX.out,rfl,zl⟩,aC (kz.2).2 (Below.size (kz.2).2) kR.2 cZ.2.1⟩
  ·exact z99
 |cases(zu:Zt 1);cases bh
  ·have HYI:=aa (Xn.below' kz.1);have HXI:=aa (Le.below' kz.1);obtain⟨l0,l1,l2,l3,l4,l5⟩:=HYI.c6;obtain⟨a0,a1,a2,a3,a4⟩:=mZ.c5;by_cases jO:zb<y.hold
   ·have HX:Hid (gL bB v s fo key=some ([],0)):=aa (by rw[HR.out,Vv HFC.out z3d]);clear a4;exact zaC (zt 0)
   ·have pY:=aa (HR.trans (SK HFC.out XI.out z3d));obtain⟨⟨e0,e1,e2,e3,e4,e5,e6,e7⟩,s0,y0⟩:=HC.out wI kz.2.1;have CO:Hid (v.cz.find? (qM v s key zb)=(v.cz.drop 0).find? (qM v s key zb)):=aa rfl;rw[HZB.out] at pY;clear HR;go_wp2_with fail;clear jO;go_loopw [96] (fun i wr=>Bx (∃k2:Nat,i= .int .i64 (k2:Int)∧k2≤n5∧v.cz.find? (qM v s key zb)=(v.cz.drop k2).find? (qM v s key zb)∧Below wI.heap.size wI wr)) (fun i _=>n5-(intOf i).toNat);case atStart=>exact z9G
    case round=>
     clear CO e0 e1 e2 e3 e4 e5 e6 e7 s0 y0 a0 a1 a2 a3 a4 l0 l1 l2 l3 l4 l5;obtain⟨⟨k2,rfl,bT,Wq,hB⟩⟩:=hrel;have HB:=ag hB (ai (bt kz.2.1 hB) (bt kz.2.2 hB));have KD:=aa Wq;clear hB Wq;by_cases hlt:k2<n5
     ·have Kl:(k2:Int)<(n5:Int):=z7;have aX:k2<v.cz.length:=z1N;obtain⟨tH,il,dQ,mF,iU,fG,bZ⟩:=(HL.2.below fC HB.2.2).at_ aX;subst dQ;obtain⟨D1,m1_,d1_,D2,m2_,Xd,op,kd,nm,D3,m3_,d3_,D4,m4_,d4_,rfl,EZ,rW,hce,lZ,_,_,hst⟩:=Db fG;obtain⟨e0,e1,e2,e3,e4,e5,e6,e7,e8,e9,fe,iD⟩:=pU bZ;have uJ:=ag EZ (ai rW (ai hst lZ));have ui:=aa (fun h=>Dl (p:=qM v s key zb) aX KD.out h);have kY:=aa (fun h=>BA (p:=qM v s key zb) aX KD.out h);clear bZ iU fG mF hce KD EZ rW hst lZ;generalize v.cz[k2]'aX=u at*;clear aX;go_upto_region 22 with(first|(refine eD 92 rfl PT ?_;intro Cz aV)|(refine bu 92 rfl wr.heap.size rfl rfl aV.1 iP ?_;intro BK bI));have dE:Below wr.heap.size wr BK:=aC aV.2.1 aV.2.1.size bI.2 ae;have bL:=ag (bt HB.1 dE) (ai (bt HB.2.1 dE) (bt HB.2.2 dE));have Dr:=ag (uJ.1.below bD dE) (ai (uJ.2.1.below aT dE) uJ.2.2);have Gf:ah BK wr.heap.size 92 #[.string ⟨u.key.toArray⟩,.string ⟨u.layer.toArray⟩,.string ⟨u.flag.toArray⟩,.string ⟨u.aN.toArray⟩,.int .i64 u.status,.slice D1 m1_ d1_,.slice D2 m2_ Xd,.int .i64 op,.string ⟨kd.toArray⟩,.string ⟨nm.toArray⟩,.slice D3 m3_ d3_,.slice D4 m4_ d4_]:=bI.1;have CW:=aa Gf;clear aV bI Gf e0 e1 e2 e3 e4 e5 e6 e7 e8 e9 fe iD dE uJ;obtain⟨x0,x1,x2,x3,x4,x5,x6,x7,x8,x9,qQ,uj⟩:=CW.c12;go_wp2_with fail;have Cy:Hid (vJ prog BK av kU 124 #[.pointer (some ⟨w7.heap.size,0,none⟩)] (fun p:SP=>decide (p.lo≤zb)&&decide (zb<p.hi)) u.claims):=aa fun W cs q hW _ hR=>Qy av w7.heap.size _ _ _ _ zb q cs W ((mZ.below' bL.1).below' hW) hR;refine(aet av _ u.claims _ #[.pointer (some ⟨w7.heap.size,0,none⟩)] (fun p:SP=>decide (p.lo≤zb)&&decide (zb<p.hi)) BK Dr.1 Cy.out aev).mono ?_;rintro e7_ NU ⟨rfl,qm⟩;have rT:=ag (bt bL.1 qm) (ai (bt bL.2.1 qm) (bt bL.2.2 qm));have PN:=aa (CW.below' qm);have KF:=ag (Dr.2.1.below aT qm) Dr.2.2;generalize aI:(u.claims.any fun p:SP=>decide (p.lo≤zb)&&decide (zb<p.hi))=bc at*;have vI:=aa aI;clear x0 x1 x2 x3 x4 x5 x6 x7 x8 x9 qQ uj Cy qm aI bL CW Dr;obtain⟨x0,x1,x2,x3,x4,x5,x6,x7,x8,x9,qQ,uj⟩:=PN.c12;obtain⟨⟨e0,e1,e2,e3,e4,e5,e6,e7⟩,s0,y0⟩:=HC.out NU rT.2.1;cases h1:(u.layer==key)
      ·have HM:=aa (kY.out (adk h1));exact z9h
      cases h2:(u.status==2)
      ·have HM:=aa (kY.out (adj h2));exact z9h
      cases bc
      ·have HM:=aa (kY.out (adi vI.out));exact z9h
      have HE:Hid (qM v s key zb u=Ab v s u.key):=aa (adh h1 h2 vI.out);go_wp2_with fail;refine(MX av jb _ v (.slice A0 ns jG) s u.key NU (fI.keep HV.out fun q _ hq=>rT.2.2.block q hq) HK.1 z36 (HS.below bG rT.2.2) (HT.below rT.2.2)).mono ?_;rintro e8_ vY ⟨rfl,pq⟩;have Dt:=ag (bt rT.1 pq) (ai (bt rT.2.1 pq) (bt rT.2.2 pq));have XF:=aa (PN.below' pq);have KE:=ag (KF.1.below aT pq) KF.2;generalize pg:Ab v s u.key=be at*;have HEL:=aa pg;clear x0 x1 x2 x3 x4 x5 x6 x7 x8 x9 qQ uj e0 e1 e2 e3 e4 e5 e6 e7 s0 y0 pq pg rT PN KF h1 h2;cases be
      ·have HM:=aa (kY.out HE.out);clear ui kY;go_wp2_with fail;go_roundw;case rel=>exact⟨⟨k2+1,zd,z7,HM.out,Dt.1⟩⟩
       case measure=>exact z9L
      have HH:=aa (ui.out HE.out);have HX:Hid (gL bB v s fo key=some (u.key,pick u.arms (uB bB u.aN x.key))):=aa (by rw[pY.out,HH.out]);clear ui kY HH;have uo:=aa (mZ.below' Dt.1);have rY:=aa (HXI.below' Dt.1);letI:mE:=gx (some w7.heap.size);go_upto_region 24 with fail;have akF:¬wr.heap.size=w7.heap.size:=z4m;have akE:¬fU.heap.size=w7.heap.size:=CU.2;refine aJ (.path [[.calm 0 false],[.calm 1 true,.calm 2 false],[.calm 3 true,.calm 4 false],[.calm 5 true,.calm 6 false],[.calm 7 true,.calm 10 false],[.aB 8 (some 11) false],[.aB 9 (some 11) false],[.aB 11 none false],[.calm 12 false],[.aB 13 none false]]) (some 11) za za za ?_;show aA _ _ _ _ _ _ _ _ _;have HQ:=ag (show Below w4.heap.size w4 vY.drew∧Below w.heap.size w vY.drew from⟨Dt.2.1.drew,Dt.2.2.drew⟩) (ai (show ah vY.drew w7.heap.size 192 _ from uo.out) (KE.1.below aT (Below.refl vY.heap.size vY).drew));obtain⟨x0,x1,x2,x3,x4,x5,x6,x7,x8,x9,qQ,uj⟩:=ah.c12 (show ah vY.drew wr.heap.size 92 #[.string ⟨u.key.toArray⟩,.string ⟨u.layer.toArray⟩,.string ⟨u.flag.toArray⟩,.string ⟨u.aN.toArray⟩,.int .i64 u.status,.slice D1 m1_ d1_,.slice D2 m2_ Xd,.int .i64 op,.string ⟨kd.toArray⟩,.string ⟨nm.toArray⟩,.slice D3 m3_ d3_,.slice D4 m4_ d4_] from XF.out);obtain⟨g0,g1,g2⟩:=ah.c3 (show ah vY.drew fU.heap.size 74 #[.string ⟨x.kind.toArray⟩,.string ⟨x.key.toArray⟩,.slice A9 n9 c9] from rY.out);have jf:=aa KE.2;clear uo rY Dt XF KE;generalize fO:vY.drew=wq at*;exact zah (zt 4)
     ·have Kl:¬(k2:Int)<(n5:Int):=z7;have HX:Hid (gL bB v s fo key=some ([],0)):=aa (by rw[pY.out,Dm z1N KD.out]);have GM:=aa (mZ.below' HB.1);obtain⟨a0,a1,a2,a3,a4⟩:=ah.c5 (GM.out);go_wp2_with(refine bu 192 rfl w3.heap.size rfl rfl (Eu.below' (HB.2).1) lK ?_;intro wz kR);refine bodyPost_ret (o7 rfl rfl rfl kR.1) rfl ?_;exact⟨Or.inr ⟨_,_,_,_,HX.out,rfl,zl⟩,aC (HB.2).2 (Below.size (HB.2).2) kR.2 cZ.2.1⟩
  ·have HX:Hid (gL bB v s fo key=some ([],0)):=aa (by rw[HR.out,SN XI.out]);exact z99):P:=h t
theorem zaT (t:Q) (h:Q→P:=by
 intro zu;rw[results_cell_tmp h tmps prog w,hp];simp only[asAddr,Sem.run_pure,Result.andThen_ok]
 first
 |cases(zu:Zt 0);rw[run_loadVar_row w g 64 64 cs (0,0) _ hb underlying64 rfl (by rw[hs];exact xh)];rfl
 |cases(zu:Zt 1);rw[run_loadVar_row w g 142 142 cs (0,0) _ hb underlying142 rfl (by rw[hs];exact DV)];rfl
 |cases(zu:Zt 2);rw[run_loadVar_row w g 54 54 cs (0,0) _ hb underlying54 rfl (by rw[hs];exact oz)];rfl
 |cases(zu:Zt 3);rw[run_loadVar_row w g 46 46 cs (0,0) _ hb underlying46 rfl (by rw[hs];exact yB)];rfl
 |cases(zu:Zt 4);rw[run_loadVar_row w g 192 192 cs (0,0) _ hb underlying192 rfl (by rw[hs];exact lK)];rfl
 |cases(zu:Zt 5);rw[run_loadVar_row w g 74 74 cs (0,0) _ hb underlying74 rfl (by rw[hs];exact aa7)];rfl
 |cases(zu:Zt 6);rw[run_loadVar_row w g 297 297 cs (0,0) _ hb underlying297 rfl (by rw[hs];exact sQ)];rfl
 |cases(zu:Zt 7);rw[run_loadVar_row w g 60 60 cs (0,0) _ hb underlying60 rfl (by rw[hs];exact AZ)];rfl
 |cases(zu:Zt 8);rw[run_loadVar_row w g 297 297 cs (0,0) _ hb underlying297 rfl (by rw[hs];exact ail)];rfl):P:=h t
theorem zaU (t:Q) (h:Q→P:=by intro zu;go_wp2_with fail;refine aJ (.path [[.calm 0 false],[.calm 1 true,.calm 2 false,.calm 3 false,.calm 4 false],[.calm 5 true],[.calm 6 true,.calm 7 false],[.aB 8 none false]]) none za za za ?_;exact zbf (zt 0)):P:=h t
theorem zaV (t:Q) (h:Q→P:=by intro zu;rintro e3 w3 ⟨⟨_,rfl,cv,x,rfl,hx⟩,bF,aO⟩;have fK:=aa (gZ.next HN.1 HN.2 bF aO);have HX:=aa hx;obtain⟨A9,n9,c9,rfl⟩:=AR hx;clear hx bF;exact zcw (zt 8)):P:=h t
theorem zaW (t:Q) (h:Q→P:=by
 intro zu;refine aZ [_] fun K hK=>?_;go_wp2_with(refine iy rfl 144 9 rfl ?_;intro wz hm hb hsz;have gp:=ag hm (ai hb hsz);clear hm hb hsz);have aK:=aa gp.1;have OW:=aa HB.size;try have GJ:=aa (show wq.heap.size≠mo from z2K)
 try have Gy:=aa (show ∀k,gm k→k≠wq.heap.size from fun k hk e=>z1d)
 try replace mK:=aa (fun k (hk:gm k)=>Nat.lt_of_lt_of_le (mK.out k hk) gp.2.1.size)
 try replace qD:=aa (qD.below ax gp.2.1)
 try replace kE:=aa (kE.below gp.2.1)
 replace HB:=aa (bt HB.out gp.2.1);refine ay.go hK ⟨gp.2.1,?_⟩;clear hK K
 first
 |cases(zu:Zt 0);refine au ?_;show aA _ _ _ _ _ _ _ _ _;clear gp;generalize wq.heap.size=md at*;exact zbF (zt 3)
 |cases(zu:Zt 1);refine au ?_;show aA _ _ _ _ _ _ _ _ _;clear gp;generalize wq.heap.size=md at*;exact z97
 |cases(zu:Zt 2);refine au ?_;show aA _ _ _ _ _ _ _ _ _;clear gp;generalize wq.heap.size=md at*;exact z9e
 |cases(zu:Zt 3);clear gp;generalize wq.heap.size=md at*;exact z67):P:=h t
theorem zaX (t:Q) (h:Q→P:=by intro zu;have HW:=HN;exact zcz (zt 0)):P:=h t
theorem zaY (t:Q) (h:Q→P:=by
 intro zu;go_wp2_with(refine bu 90 rfl w.heap.size rfl rfl HE.b0 bf ?_;intro w9 aG);refine bodyPost_ret (results_cell_row rfl _ _ w.heap.size 90 _ (0,0) _ rfl aG.1 underlying90 rfl bf) rfl ?_
 first
 |cases(zu:Zt 0);refine⟨⟨_,rfl,[_,_,_,_,_],(.mk 5 [] nm [] []),rfl,?_⟩,HE.dw.whole aG.2 HE.gl ae HE.gr.size,aP HE.gr aG.2 ae⟩;exact ky h1 (AO 5 nm _ _ ⟨z7,z7⟩ HT.out) (AP z7 _ _ _) (AQ _ _ _ _)
 |cases(zu:Zt 1);refine⟨⟨_,rfl,[_,_,_,_,_],(.mk 4 [] [] [] [ex]),rfl,?_⟩,HE.dw.whole aG.2 HE.gl ae HE.gr.size,aP HE.gr aG.2 ae⟩;refine ky (show d'+1≤d'+2 from z7) ⟨_,_,rfl,Ls.nil _ _,(HL.grown (az d') aG.2 (fun q hq=>zi)).weaken (az d') z7 (fun q hq _=>Nat.le_of_lt hq),show df 4 from⟨z7,z7⟩,zl,zl⟩ ⟨fun _=>zd,fun y hy=>?_⟩ ⟨zd,fun y hy=>?_⟩
  ·simp at hy;subst hy;exact HX.2.1
  ·simp at hy;subst hy;exact HX.2.2
 |cases(zu:Zt 2);refine⟨⟨_,rfl,[_,_,_,_,_],(.mk (2+(r2:Int)) [] [] [] l),rfl,?_⟩,HE.dw.whole aG.2 HE.gl ae HE.gr.size,aP HE.gr aG.2 ae⟩;have hwN:=HA.wN;refine⟨⟨_,_,rfl,Ls.nil _ _,((HA.ow.ls (az (d'+1)) z7 zO (fun q hq _=>hq) (fun q hq=>(HA.ow.lt q hq).1)).grown (az (d'+1)) aG.2 (fun q hq=>zi)).weaken (az (d'+1)) z7 (fun q hq _=>z7),⟨z7,z7⟩,zl,zl⟩,⟨fun _ qV=>z3I,fun y hy=>(HA.al y hy).1⟩,zO,fun y hy=>(HA.al y hy).2⟩
 |cases(zu:Zt 3);refine⟨⟨_,rfl,[_,_,_,_,_],(.mk 1 [] [] [] []),rfl,?_⟩,HE.dw.whole aG.2 HE.gl ae HE.gr.size,aP HE.gr aG.2 ae⟩;exact ky h1 (AO 1 [] _ _ ⟨z7,z7⟩ zl) (AP z7 _ _ _) (AQ _ _ _ _)
 |cases(zu:Zt 4);have hN:=HN.out;have h0:=hN.a;have h1:=hN.b;have h2:=hN.c
  first
  |cases(zu:Zt 0);exact⟨⟨_,rfl,[_,_,_,_,_],.mk 11 dd.kind dd.name _ [],rfl,⟨_,_,rfl,(HE.out.ls.grown aL aG.2 (fun q hq=>zi)).weaken aL z7 (fun q hq _=>z7),Ls.nil _ _,⟨z7,z7⟩,wW.out⟩,oq z7 _ _ _⟩,HE.dw.whole aG.2 h0 ae HE.gr.size,aP HE.gr aG.2 ae⟩
  |cases(zu:Zt 1);exact⟨⟨_,rfl,[_,_,_,_,_],.mk 7 dd.kind dd.name _ [],rfl,⟨_,_,rfl,(HE.out.ls.grown aL aG.2 (fun q hq=>zi)).weaken aL z7 (fun q hq _=>z7),Ls.nil _ _,⟨z7,z7⟩,wW.out⟩,oq z7 _ _ _⟩,HE.dw.whole aG.2 h0 ae HE.gr.size,aP HE.gr aG.2 ae⟩
  |cases(zu:Zt 2);exact⟨⟨_,rfl,[_,_,_,_,_],.mk (9+(r2:Int)) dd.kind dd.name _ [],rfl,⟨_,_,rfl,(HE.out.ls.grown aL aG.2 (fun q hq=>zi)).weaken aL z7 (fun q hq _=>z7),Ls.nil _ _,⟨z7,z7⟩,wW.out⟩,oq z7 _ _ _⟩,HE.dw.whole aG.2 h0 ae HE.gr.size,aP HE.gr aG.2 ae⟩
  |cases(zu:Zt 3);exact⟨⟨_,rfl,[_,_,_,_,_],.mk (12+(r2:Int)) dd.kind dd.name _ [],rfl,⟨_,_,rfl,(HE.out.ls.grown aL aG.2 (fun q hq=>zi)).weaken aL z7 (fun q hq _=>z7),Ls.nil _ _,⟨z7,z7⟩,wW.out⟩,oq z7 _ _ _⟩,HE.dw.whole aG.2 h0 ae HE.gr.size,aP HE.gr aG.2 ae⟩
 |cases(zu:Zt 5);have hN:=HN.out;have h0:=hN.a;have h1:=hN.b;have h2:=hN.c;exact⟨⟨_,rfl,[_,_,_,_,_],.mk 6 dd.kind dd.name _ [],rfl,⟨_,_,rfl,(HE.out.ls.grown aL aG.2 (fun q hq=>zi)).weaken aL z7 (fun q hq _=>z7),Ls.nil _ _,⟨z7,z7⟩,wW.out⟩,oq z7 _ _ _⟩,HE.dw.whole aG.2 h0 ae HE.gr.size,aP HE.gr aG.2 ae⟩
 |cases(zu:Zt 6);have hN:=HN.out;have h0:=hN.a;have h1:=hN.b;have h2:=hN.c;exact⟨⟨_,rfl,[_,_,_,_,_],.mk 8 dd.kind dd.name _ [],rfl,⟨_,_,rfl,(HE.out.ls.grown aL aG.2 (fun q hq=>zi)).weaken aL z7 (fun q hq _=>z7),Ls.nil _ _,⟨z7,z7⟩,wW.out⟩,oq z7 _ _ _⟩,HE.dw.whole aG.2 h0 ae HE.gr.size,aP HE.gr aG.2 ae⟩
 |cases(zu:Zt 7);refine⟨⟨_,rfl,[_,_,_,_,_],(.mk op k nm vs kids),rfl,?_⟩,HE.dw.whole aG.2 HE.gl ae HE.gr.size,aP HE.gr aG.2 ae⟩;exact ky h1 ((az 1).weaken ((az 1).keep HX.1 (fun q hq hl=>aG.2.block q hl zJ)) (fun q hq _=>zR)) HX.2.1 HX.2.2):P:=h t
theorem zaZ (t:Q) (h:Q→P:=by
 intro zu;refine aZ [_] fun K hK=>?_;go_wp2_with fail;refine(NP B g (.slice As3 YQ Fa) FH z2X 3 wq z7 HF.dw (tL.weaken ax z7 (fun q hq hl=>⟨hl,qF.out q z1z⟩))).mono ?_;rintro e4 wz ⟨⟨_,rfl,ct9,ex,rfl,hx,fV,fF⟩,xE,mV⟩
 first
   | (have HX:=aa (ky (show dep 3≤lvl from zL) ((az (dep 3)).weaken (bS:=fun q=>S≤q∧q≠ng) hx (fun q hq _=>⟨af gQ.out hq,z1w⟩)) fV fF);replace dh:=aa (dh.next bM (Nat.lt_trans HF.gw (Nat.lt_of_le_of_lt HF.wN HF.NM)) mV))
   | have HX:=aa (ky (show dep 3≤lvl from zL) ((az (dep 3)).weaken (bS:=fun q=>S≤q) hx (fun q hq _=>af gQ.out hq)) fV fF)
 obtain⟨op,gB,lh,vs9,abC,A1,n1,mD,A2,n2,ji,_,rfl,_⟩:=mq hx;clear hx fV fF tL;replace HF:=aa (HF.next bM xE mV);replace gQ:=aa (af gQ.out mV.size);clear xE;go_wp2_with fail;refine ay.go hK ⟨mV,?_⟩;clear hK K
 first
 |cases(zu:Zt 0);clear mV;exact z8Z
 |cases(zu:Zt 1);refine au ?_;show aA _ _ _ _ _ _ _ _ _;clear mV;exact zbF (zt 1)):P:=h t
theorem zb0 (t:Q) (h:Q→P:=by
 intro zu;refine aZ [_] fun K hK=>?_;go_wp2_with fail;refine(NK B g wq HI.dw).mono ?_;rintro e3 wz ⟨⟨_,rfl,l1,hl,hn⟩,bF,aO⟩;have Hz:=HI.gE;have QU:=HI.En;have QS:=HI.wN;have QT:=HI.nr
 first
   | (have jc:=ag (hl.weaken (bS:=fun q=>wr.heap.size≤q∧q≠ng) ax z7 (fun q hq _=>⟨z1r,z2e⟩)) hn;replace HG:=ag (HG.1.grown aO z1m) (ai HG.2.1 (Nat.lt_of_lt_of_le HG.2.2 aO.size));replace HOW:=ag (HOW.1.grown dG aO (fun k hk=>z54)) HOW.2)
   | have jc:=ag (hl.weaken (bS:=fun q=>wr.heap.size≤q) ax z7 (fun q hq _=>z1r)) hn
 skip;obtain⟨A1,k1,rfl,_,_⟩:=hl.open_;generalize (l1).length=n1 at*;replace HI:=aa (HI.next bF aO);clear Hz QU QS QT hl hn bF;exact zcw (zt 6)):P:=h t
theorem zb1 (t:Q) (h:Q→P:=by
 intro zu;refine aZ [_] fun K hK=>?_;go_wp2_with fail;refine(BO av _ y.vP now PM.out wq (mO.below lX (bt HW.out (bt aS.out dM.out)))).mono ?_;rintro e3 w5 ⟨⟨g3,rfl,aO,TJ⟩,eG⟩;have qY:=aa TJ;try replace aK:=aa (aK.below bD eG)
 replace dM:=aa (bt dM.out eG);clear aO TJ;go_wp2_with fail;refine ay.go hK ⟨eG,?_⟩;clear hK K
 first
 |cases(zu:Zt 0);clear eG;obtain⟨wq,rfl⟩:∃z,z=w5:=⟨_,rfl⟩;exact z9P
 |cases(zu:Zt 1);refine au ?_;show aA _ _ _ _ _ _ _ _ _;clear eG;obtain⟨wq,rfl⟩:∃z,z=w5:=⟨_,rfl⟩;exact z91
 |cases(zu:Zt 2);refine au ?_;show aA _ _ _ _ _ _ _ _ _;clear eG;obtain⟨wq,rfl⟩:∃z,z=w5:=⟨_,rfl⟩;refine au ?_;refine⟨?_,?_⟩;next=>refine cmCb1 ?_;refine au ?_;show aA _ _ _ _ _ _ _ _ _;exact z91
  exact zaE (zt 2)):P:=h t
theorem zb2 (t:Q) (h:Q→P:=by
 intro zu;refine aZ [_] fun K hK=>?_;go_wp2_with fail;refine(I4 B g nv wq HQ.dw z1g z1g).mono ?_;rintro e6 wz ⟨⟨v6,rfl,arms,rW,_⟩,kP,dZ⟩
 first
   | (have iO:=aa (rW.weaken (bS:=fun q=>S≤q∧q≠xX) aT z7 (fun q hq _=>⟨af HQ.sz hq,z2F⟩)))
   | (have iO:=aa (rW.weaken (bS:=fun q=>S≤q) aT z7 (fun q hq _=>af HQ.sz hq)))
 obtain⟨Ar,cr,rfl,_,_⟩:=rW.open_;generalize Gd:arms.length=nr at*;clear rW;replace HQ:=aa (HQ.next kP dZ);try replace dh:=aa (dh.grown dZ zv)
 replace lH:=aa (lH.grown dZ zB);go_wp2_with fail;refine ay.go hK ⟨dZ,?_⟩;clear hK K
 first
 |cases(zu:Zt 0);clear kP dZ;exact z9Z
 |cases(zu:Zt 1);refine au ?_;show aA _ _ _ _ _ _ _ _ _;clear kP dZ;exact zbF (zt 0)):P:=h t
theorem zb3 (t:Q) (h:Q→P:=by
 intro zu;have dI:=dU (bt HW.out HB.out) (af HW.size HB.size) dM.out;go_wp2_with(at_builtin;go_loud(refine aU rfl _ (.tmp 20) _ rfl qy.heap.size 90 i0 _ 5 88 underlying88 fu hz hs dA rfl z7 (az D) (av:=av) _ [] rfl (Ow.nil wq _ _) csl l av _ rfl z2f Gz.1 Gz.2.1 Gz.2.2.2.2 (fun k c x hc hx=>(az D).weaken ((az D).keep (Gz.2.2.2.1 k c x hc hx) fun q _ hq=>dI.block q hq) fun q hq _=>⟨hq,fun h=>z1B⟩) z1i z7 dM.size ?_);intro v1 w5 sZ gP _);have eG:=lY (show wq.grownBy w5 none from gP);have bW:=aa sZ;try replace aK:=aa (aK.below eG)
 replace dM:=aa (bt dM.out eG)
 first
 |cases(zu:Zt 0);refine ay.go hK ?_;clear hK K;clear eG gP sZ dI;obtain⟨wq,rfl⟩:∃z,z=w5:=⟨_,rfl⟩;exact z6k
 |cases(zu:Zt 1);refine ay.go hK ⟨eG,?_⟩;clear hK K;refine au ?_;show aA _ _ _ _ _ _ _ _ _;clear eG gP sZ dI;obtain⟨wq,rfl⟩:∃z,z=w5:=⟨_,rfl⟩;exact zas (zt 1)):P:=h t
theorem zb4 (t:Q) (h:Q→P:=by
 intro zu;rw[show ((hv+1:Nat):Int)=(hv:Int)+1 from zd,show((q+1:Nat):Int)=(q:Int)+1 from zd] at UU OO;have JI:=ag UU OO;clear UU OO rZ;go_wp2_with fail;generalize ((wr.drewN nq).setCell ⟨gH,q+1,none⟩ (.int .i64 ((hv:Int)+1))).setCell ⟨gO,b,none⟩ (.int .i64 ((q:Int)+1))=wq at JI⊢;clear z1 z2 z3 y1 y2;generalize upd g b (q+1)=g at JI HQ Uj xN;generalize upd mf (q+1) (hv+1)=mf at JI HQ;have rZ:=aa JI.1;have HR:=ag Uj.out (ai gQ.out JI.2);clear HO JI;have z1:=rZ.o.cell hlt;rw[xN.out] at z1
 first
 |cases(zu:Zt 0);skip;exact zbz (zt 1)
 |cases(zu:Zt 1);(obtain⟨gr,c0,KW,arC,arB,anr,Ko,zr2,zr1,yr1⟩:=HR.2.2.last;simp only[Value.slice.injEq,true_and] at KW;obtain⟨rfl,rfl⟩:=KW);by_cases D7:r.var=(q:Int)+1
  ·rw[D7] at zr2;have OP:=aa D7;clear D7;try go_wp2_with fail
   go_quiet(fail);have hlg:=HR.2.2.longer ((b:Int)+1);have HLG:=aa (Rr.longer (w:=(wq.drewN nq)) (show Rr (wq.drewN nq) (gO+1) _ (m++[r]) from HR.2.2) ((b:Int)+1));clear hlg;go_wp2_with fail;go_roundw
   case rel=>
    have X:∃(b' rz:Nat) (g' xC:Nat→Nat) (out':List RG),Value.int .i64 ((q:Int)+1)= .int .i64 (rz:Int)∧Value.int .i64 ((b:Int)+1)= .int .i64 (b':Int)∧b'≤10000∧rz≤9∧RW w (((wq.drewN nq)).setCell ⟨gr,m.length*3+1,none⟩ (.int .i64 ((b:Int)+1))) gH gO g' xC∧rX 10000 k (rU ws) f b' rz g' xC∧sJ g' b' out'∧JG out'∧Rr (((wq.drewN nq)).setCell ⟨gr,m.length*3+1,none⟩ (.int .i64 ((b:Int)+1))) (gO+1) (.slice (some ⟨gr,0,none⟩) (m.length+1) cap) out'∧out'.length≤b':=by
     have hla:=HR.1.last m r rfl;have hsm:=HR.2.1;have hrm:=hsm r zd;refine⟨b+1,(q+1),g,mf,m++[⟨r.lo,(b:Int)+1,r.var⟩],zd,zd,z7,Hq,RW.grown (rZ.drewN nq) HLG.2 z7,HQ.out,HR.1.on ?_,?_,HLG.1,?_⟩
     ·exact z87
     ·exact z8S
     ·simp at QH⊢;omega
    exact z6w
   case measure=>exact z9L
  ·have lL:(r.var==(q:Int)+1)=false:=by simpa using D7
   have OP:=aa D7;clear D7;exact zbz (zt 0)):P:=h t
theorem zb5 (t:Q) (h:Q→P:=by
 intro zu;clear kP dZ;obtain⟨wq,rfl⟩:∃z,z=wz:=⟨_,rfl⟩;have wE:(r:Int)<(nl:Int):=z7;have hrn:r<x.layers.length:=by rw[Rt.out];exact hr
 obtain⟨ad,cs,had,aY,aI,Gl,hcell⟩:=(Q8 HQ.en).cB iw hrn;subst had;have jo:∃lk:List UInt8,Tl lk∧wq.cell? (ad.add (r*6))=some (.string ⟨lk.toArray⟩):=z2x;obtain⟨lk,qB,x0⟩:=jo;have nZ:=aa qB;have abI:¬ad.block=g:=aY.2;clear hcell Gl aI aY hrn hr qB;refine cmBa2 ?_;refine cmDa1 ?_;clear x0
 first
 |cases(zu:Zt 0);exact z9g
 |cases(zu:Zt 1);refine au ?_;refine⟨?_,?_⟩;rotate_left;next=>exact za9 (zt 1)
  exact zcN (zt 0)):P:=h t
theorem zb6 (t:Q) (h:Q→P:=by
 intro zu;refine aJ (.path [[.calm 0 false,.calm 1 false,.calm 2 false],[.calm 3 true,.calm 4 false,.calm 5 false,.calm 6 false],[.calm 7 true,.calm 8 false],[.calm 9 true,.calm 10 false],[.calm 11 true],[.aB 12 (some 25) false],[.calm 13 false,.calm 14 false,.calm 15 false,.calm 16 false],[.calm 17 true,.calm 20 false],[.calm 21 true],[.aB 18 (some 25) false],[.calm 19 false],[.calm 22 true,.calm 23 false,.calm 24 false]]) none za za za ?_;show aA _ _ _ _ _ _ _ _ _
 first
 |cases(zu:Zt 0);generalize w4.drew=wq at*;obtain⟨f0,f1,f2,f3,f4,f5,f6,f7,f8,f9,f10,f11,f12⟩:=Cs.2.nY;obtain⟨p0,p1⟩:=Cs.1.c2;have g12:wq.cell? ⟨E.g,12,none⟩=some (.map (some E.mo)):=(CS.row uS.out).cell 12;rw[vD] at f3;have jo:=CS.isOpen f.key jf.out
  first
  |cases(zu:Zt 0);clear vD;exact zaJ (zt 1)
  |cases(zu:Zt 1);rw[decide_eq_true hop] at jo;clear hop vD;exact zaJ (zt 2)
  |cases(zu:Zt 2);rw[decide_eq_false hop] at jo;have Pq:=BH.out;rw[vD] at Pq;have XN:=aa Pq;clear hop vD Pq;refine cmBa3 ?_;refine cmFa4 ?_;refine cmGa2 ?_;refine cmFa2 ?_;refine cmFa1 ?_;refine cmBa1 ?_;refine cmBa4 ?_;refine cmFa2 ?_;refine cmFa1 ?_;clear jo f0 f1 f2 f3 f4 f5 f6 f7 f8 f9 f10 f11 f12 p0 p1 g12;refine aZ [_] fun K hK=>?_;go_wp2_with fail;refine(jA.out st f _ wq CS.out XN.out rf.2.1 Rs.out HF.out).mono ?_;rintro e5 w5 ⟨⟨cs5,rfl,hd⟩,hR5,yM⟩;obtain⟨A9,n9,c9,rfl⟩:=vO hd;have OQ:=aa hR5;have Uh:=aa yM;clear hR5 hd;generalize hdd:(dD E.O n st f).1=dd at*;have CG:=agx (.string ⟨dd.flag.toArray⟩) (.int .i64 dd.value.kind) (.int .i64 dd.value.num) (.string ⟨dd.value.text.toArray⟩) (.slice A9 n9 c9) (.int .i64 dd.why.kind) (.int .i64 dd.why.idx) (.string ⟨dd.why.name.toArray⟩) (.int .i64 dd.why.bucket) (.int .i64 0) dd.var;have HDD:=aa hdd;clear hdd;go_wp2_with fail;refine ay.go hK ⟨yM,?_⟩;clear hK K;clear yM;refine cmBa1 ?_;refine cmGa3 ?_;refine au ?_;go_wp2_with fail;go_ret;refine⟨_,_,rfl,OQ.out,(Wr.of_below _ cZ.out).trans Uh.out,Rb n st f Rs.out,fun l=>?_⟩
   have hc:¬(f.mI=false∨f.key∈st.opn):=by
    rintro(h|h)
    ·rw[GD.out] at h;cases h
    ·exact Rs.out h
   by_cases hv:dd.var=p.var
   ·rw[if_pos (by simpa using hv)];exact afK rf.1 hc (by rw[HDD.out];exact hv)
   ·rw[if_neg (by simpa using hv)];exact abt rf.1 hc (by rw[HDD.out];exact hv)
 |cases(zu:Zt 1);generalize fO:w4.drew=wq at*;exact zaJ (zt 0)):P:=h t
theorem zb7 (t:Q) (h:Q→P:=by
 intro zu;have bW:=aa ((hP.ow.alloc pR (.cells #[.string ⟨ya.toArray⟩,.string ⟨yb.toArray⟩] 216)).grown pR (sU (World.grownBy.refl _ none)) (fun k hk=>z5c));have dz:=aa (hP.lo.alloc hP.lo.size (.cells #[.string ⟨ya.toArray⟩,.string ⟨yb.toArray⟩] 216)).drew;have aK:=aa (Sl.made (w:=wr) (av:=fun _=>True) [.string ⟨ya.toArray⟩,.string ⟨yb.toArray⟩] 216 (size:=2) rfl trivial).drew
 first
 |cases(zu:Zt 0);clear Jp hR9 Tw V3 agm hP hyb;go_wp2_with fail;refine dK [[.calm 0 false,.calm 1 false,.calm 2 false,.calm 3 false,.calm 4 false,.calm 5 false,.calm 6 false,.calm 7 false,.calm 8 false,.calm 9 false,.calm 10 false,.calm 11 false,.calm 12 false,.calm 13 false,.calm 14 false,.calm 15 false,.calm 16 false,.aB 17 none false,.aB 18 none false,.aB 19 none false,.calm 20 false]] none za za za za ?_;refine aW [_,_,_,_,_,_,_,_,_,_,_,_,_,_,_,_,_,_,_,_,_] fun K hK=>?_;go_wp2_with(at_builtin;refine aU rfl (.tmp 24) (.tmp 42) _ rfl w1.heap.size 216 i0 _ 2 32 underlying177 hi hz hs dA rfl z7 pR _ _ rfl bW.out [[.string ⟨ya.toArray⟩,.string ⟨yb.toArray⟩]] [(ya,yb)] _ _ rfl aK.out rfl zd z1b z1Q XR.out z7 dz.size ?_;intro v2 w2 kV bK pz;have aS:=aa (gY dz.out bW.out ae dz.size bK);have dm:=aa kV;clear kV bK);exact zbN (zt 1)
 |cases(zu:Zt 1);clear Jp Ht Tw V3 agm hP;go_wp2_with fail;refine dK [[.calm 0 false,.calm 1 false,.calm 2 false,.calm 3 false,.calm 4 false,.calm 5 false,.calm 6 false,.calm 7 false,.calm 8 false,.calm 9 false,.aB 10 none false,.aB 11 none false,.aB 12 none false,.calm 13 false]] none za za za za ?_;refine aW [_,_,_,_,_,_,_,_,_,_,_,_,_,_] fun K hK=>?_;go_wp2_with(at_builtin;refine aU rfl (.tmp 25) (.tmp 36) _ rfl w1.heap.size 216 i0 _ 2 32 underlying177 hi hz hs dA rfl z7 pR _ _ rfl bW.out [[.string ⟨ya.toArray⟩,.string ⟨yb.toArray⟩]] [(ya,yb)] _ _ rfl aK.out rfl zd z1b z1Q XR.out z7 dz.size ?_;intro v2 w2 kV bK pz;have aS:=aa (gY dz.out bW.out ae dz.size bK);have dm:=aa kV;have jB:=aa (Fw.aside ax z7 bK pz);clear kV bK);exact zbN (zt 2)):P:=h t
theorem zb8 (t:Q) (h:Q→P:=by
 intro zu;refine aJ (.fork [[.calm 0 false],[.calm 1 true,.calm 2 false],[.calm 3 true,.calm 4 false],[.calm 5 true]] 6 none false (.path [[.calm 7 false,.calm 8 false,.calm 9 false],[.aB 10 none false],[.aB 11 none false],[.calm 12 false]]) 10 (some 6) false (.path [[.aB 6 none false],[.calm 7 false,.calm 8 false,.calm 9 false],[.aB 11 none false],[.calm 12 false]])) (some 6) za za za ?_;show aA _ _ _ _ _ _ _ _ _
 first
 |cases(zu:Zt 0);generalize w2.drew=wq at*;have g11:wq.cell? ⟨E.g,11,none⟩=some (.map (some E.md)):=(HQ.1.row uS.out).cell 11;have f0:wq.cell? ⟨w.heap.size,0,none⟩=some (.string ⟨f.key.toArray⟩):=HQ.2.2.2.1.cell 0;exact zaa (zt 0)
 |cases(zu:Zt 1);generalize w4.drew=wq at*;have y1:wq.cell? ⟨wr.heap.size,1,none⟩=some (.string ⟨y.kind.toArray⟩):=HB.2.1.cell 1;have g8:wq.cell? ⟨E.g,8,none⟩=some (.slice A0 ns k0):=by have:=((HR.below HB.2.2).row uS.out).cell 8;rw[xL.out] at this;exact this
  exact zaa (zt 4)):P:=h t
theorem zb9 (t:Q) (h:Q→P:=by
 intro zu;rw[nS,Bool.and_eq_true] at hB;obtain⟨h1,h2⟩:=hB;have tF:(if kb then wf else w)=wf:=z9f;rw[List.flatten_cons];unfold aA at h;rw[tF] at h
 have next:∀a2 w2,aA P ops Q r (jV l t) (jl l kb) (if jl l kb then wf else w2) a2 w2→iJ P ops Q r.flatten (jV l t) (jl l kb) (if jl l kb then wf else w2) a2 w2:=fun a2 w2 h=>
   gD r _ _ _ a2 w2 (fun hk=>z1n) h2 h
 unfold afq at h1
 first
 |cases(zu:Zt 0);split at h1
  ·exact zch (zt 0)
  ·exact zcA (zt 0)
  ·rename_i iH iC;have e1:∀X,oZ P ops a w X l=X:=z8z;exact z7d
 |cases(zu:Zt 1);split at h1
  ·exact zch (zt 1)
  ·exact zcA (zt 1)
  ·rename_i iH iC;have e1:∀X,oZ P ops a X l=X:=z8z;exact z7d):P:=h t
theorem zba (t:Q) (h:Q→P:=by
 intro zu;go_quiet(fail);have HW:=aa (Sl.made (w:=(wr.drewN nq)) (av:=fun x=>x=(wr.drewN nq).heap.size) [.int .i64 (b:Int),.int .i64 ((b:Int)+1),.int .i64 ((q:Int)+1)] 71 (size:=3) rfl rfl);have HO:=aa (World.ownsRow.alloc (show((wr.drewN nq)).ownsRow (gO+1) 71 3 _ _ _ from HR.2.2) (.cells #[.int .i64 (b:Int),.int .i64 ((b:Int)+1),.int .i64 ((q:Int)+1)] 71))
 first
 |cases(zu:Zt 0);exact zan (zt 0)
 |cases(zu:Zt 1);exact zan (zt 2)):P:=h t
theorem zbb (t:Q) (h:Q→P:=by
 intro zu;have HFE:Hid (¬f.exp=[]):=aa z5x;go_wp2_with fail;refine(Vt av _ v f wH (fI.keep HV.out fun q _ hq=>jH.2.2.block q hq)).mono ?_;rintro eI wI ⟨rfl,rH⟩;have kz:=ag (bt jH.1 rH) (ai (bt jH.2.1 rH) (bt jH.2.2 rH));have Xw:=aa (Xx.below' rH);clear q0 q1 q2 e0 e1 e2 e3 e4 e5 e6 e7 s0 y0 rH Xx;generalize Tp:G7 v f=bru at*;have HRU:=aa Tp;clear Tp
 first
 |cases(zu:Zt 0);cases bru
  ·have HR:Hid (gL bB v s fo key=iE v s key y):=aa z2g;go_upto_region 14 with fail;obtain⟨wH,rfl⟩:∃z,z=wI:=⟨_,rfl⟩;have jH:=kz;clear kz Wp;exact z6c
  ·exact z61
 |cases(zu:Zt 1);cases bru
  ·have HR:Hid (gL bB v s fo key=iE v s key y):=aa z2g;go_upto_region 14 with fail;obtain⟨wH,rfl⟩:∃z,z=wI:=⟨_,rfl⟩;have jH:=kz;clear kz Wp;exact z5M
  ·exact z61):P:=h t
theorem zbc (t:Q) (h:Q→P:=by
 intro zu;have kZ:=aa (Si p aX bX)
 have vH:=aa (show ∀j (h:j<l.length) (h2:j<m.length),j<k+1→j<k∨(l[j]'h=l[k]'aX∧m[j]'h2=m[k]'bX) from fun j h h2 hj=>by
   rcases Nat.lt_or_ge j k with h1|h1
   · exact .inl h1
   · obtain rfl:j=k:=by omega
     exact .inr ⟨rfl,rfl⟩)
 generalize l[k]'aX=x at*;generalize m[k]'bX=y at*
 first
 |cases(zu:Zt 0);obtain⟨x0,x1,x2,x3⟩:=mX (hcell wr HB.out);clear hcell bZ hR fG aI iU hlt;go_upto_region 6 with(first|(refine eD 60 rfl nA ?_;intro w5 aV)|(refine bu 60 rfl wr.heap.size rfl rfl aV.1 kD ?_;intro w6 bI));have bL:Hid (Below w.heap.size w w6):=aC (bt HB.out aV.2.1) (af HB.size aV.2.1.size) bI.2 HB.size;clear x0 x1 x2 x3;obtain⟨x0,x1,x2,x3⟩:=HYC.out w6 bL.out;go_upto_region 7 with(first|(refine eD 60 rfl nA ?_;intro w7 iT)|(refine bu 60 rfl w6.heap.size rfl rfl iT.1 kD ?_;intro w8 jy));have dL:Hid (Below w.heap.size w w8):=aC (bt bL.out iT.2.1) (af bL.size iT.2.1.size) jy.2 bL.size;have rY:=aa ((bI.1.below' iT.2.1).grown jy.2 z3G);clear x0 x1 x2 x3;obtain⟨x0,x1,x2,x3⟩:=ah.c4 rY.out;obtain⟨y0,y1,y2,y3⟩:=ah.c4 jy.1;go_wp2_with fail;refine(HC.out w8 [.int .i64 x.kind,.int .i64 x.num,.string ⟨x.text.toArray⟩,.slice A5 n5 c5] [.int .i64 y.kind,.int .i64 y.num,.string ⟨y.text.toArray⟩,.slice A6 n6 c6] x y dL.out (HX.out w8 dL.out).1 (HX.out w8 dL.out).2).mono ?_;rintro e9 w9 ⟨rfl,eu⟩;have dW:=aa (bt dL.out eu);clear x0 x1 x2 x3 y0 y1 y2 y3 eu;exact z6A
 |cases(zu:Zt 1);obtain⟨x0,x1,x2,x3,x4⟩:=cells5 (hcell wr HB.out);clear hcell bZ hR fG aI iU hlt;go_upto_region 6 with(first|(refine eD 90 rfl lI ?_;intro w5 aV)|(refine bu 90 rfl wr.heap.size rfl rfl aV.1 bf ?_;intro w6 bI));have bL:Hid (Below w.heap.size w w6):=aC (bt HB.out aV.2.1) (af HB.size aV.2.1.size) bI.2 HB.size;clear x0 x1 x2 x3 x4;obtain⟨x0,x1,x2,x3,x4⟩:=HYC.out w6 bL.out;go_upto_region 7 with(first|(refine eD 90 rfl lI ?_;intro w7 iT)|(refine bu 90 rfl w6.heap.size rfl rfl iT.1 bf ?_;intro w8 jy));have dL:Hid (Below w.heap.size w w8):=aC (bt bL.out iT.2.1) (af bL.size iT.2.1.size) jy.2 bL.size;have rY:=aa ((bI.1.below' iT.2.1).grown jy.2 z3G);clear x0 x1 x2 x3 x4;obtain⟨x0,x1,x2,x3,x4⟩:=ah.c5 rY.out;obtain⟨y0,y1,y2,y3,y4⟩:=ah.c5 jy.1;go_wp2_with fail;refine(HC.out w8 [.int .i64 I7,.string ⟨Jb.toArray⟩,.string ⟨Ja.toArray⟩,.slice A5 n5 c5,.slice B5 m5 e5] [.int .i64 op6,.string ⟨kd6.toArray⟩,.string ⟨nm6.toArray⟩,.slice A6 n6 c6,.slice B6 m6 e6] x y dL.out (HX.out w8 dL.out).1 (HX.out w8 dL.out).2).mono ?_;rintro e9 w9 ⟨rfl,eu⟩;have dW:=aa (bt dL.out eu);clear x0 x1 x2 x3 x4 y0 y1 y2 y3 y4 eu;exact z6A):P:=h t
theorem zbd (t:Q) (h:Q→P:=by
 intro zu;obtain⟨Mq,WL⟩:=Qv 10000 z7 w;have pQ:(Instr.makeSlice 169 (.int .i64 10000) (.int .i64 10000)).run prog w= .ok (.slice (some ⟨w.heap.size,0,none⟩) 10000 10000) (w.alloc (.cells (madeCells #[.bool false] 10000) 4)):=Mq;clear Mq;have nH:=(Below.refl w.heap.size w).alloc ae (.cells (madeCells #[.bool false] 10000) 4);generalize w.alloc (.cells (madeCells #[.bool false] 10000) 4)=w1 at pQ WL nH
 first
 |cases(zu:Zt 0);go_enter func94,ntmps94;go_wp2_with fail;have kG:=ag WL nH;clear pQ WL nH;go_loopw [6] (fun i wr=>∃k:Nat,i= .int .i64 (k:Int)∧k≤10000∧Bo wr w.heap.size 10000∧Below w.heap.size w wr) (fun i _=>10000-(intOf i).toNat);case atStart=>exact z8U
  case round=>
   clear kG;obtain⟨k,rfl,hk,hO,hB⟩:=hrel;have HO:=ag hO hB;by_cases hlt:k<10000
   ·obtain⟨x,hx,cx⟩:=(HN.below' hB).cell hlt;have f1:=hO.frozen k;obtain⟨b0,c0⟩:=hO.cell hlt;have dY:(k:Int)<10000:=z7;clear hO hB;go_wp2_with fail;go_roundw;case rel=>exact⟨k+1,zd,z7,HO.1.bC k _,HO.2.setCell ae _⟩
    case measure=>exact z9L
   ·obtain rfl:k=10000:=z7;clear hO hB;go_wp2_with fail;refine(yz w.heap.size _ HO.1).mono ?_;intro e3 w3 h3;have h4:=h3.FB z7 bD HO.2;exact z9l
 |cases(zu:Zt 1);go_enter func64,ntmps64;go_wp2_with fail;have kG:=ag WL nH;clear pQ WL nH;go_loopw [4] (fun i wr=>∃k:Nat,i= .int .i64 (k:Int)∧k≤l.length∧Bo wr w.heap.size 10000∧Below w.heap.size w wr) (fun i _=>l.length-(intOf i).toNat);case atStart=>exact z8U
  case round=>
   clear kG;obtain⟨k,rfl,hk,hO,hB⟩:=hrel;by_cases hlt:k<l.length
   ·obtain⟨ad,cs,had,aY,aI,hR,hcell⟩:=HV.cB bD hlt;subst had;obtain⟨hcs,_⟩:=hR _ aj;subst hcs;have HC:=aa (fun(W:World) (hW:Below w.heap.size w W)=>xJ (hcell W hW));generalize l[k]'hlt=y at HC;simp only[iv] at HC;clear hcell hR aI;obtain⟨e0,e1⟩:=HC.out _ hB;have HB:=ag hO hB;clear hO hB;go_wp2_with fail;go_loopw [5] (fun i wr=>∃b:Nat,i= .int .i64 (b:Int)∧Bo wr w.heap.size 10000∧Below w.heap.size w wr) (fun i _=>10000-(intOf i).toNat);case atStart=>exact⟨(max y.lo 0).toNat,by rw[Int.toNat_of_nonneg z7],HB.1,HB.2⟩
    case round=>
     clear HB e0 e1;obtain⟨b,rfl,hO,hB⟩:=hrel;obtain⟨e0,e1⟩:=HC.out _ hB;have HB:=ag hO hB;by_cases hb:(b:Int)<min y.hi 10000
     ·have bQ:b<10000:=z7;have fq:(k:Int)<(l.length:Int):=z7;obtain⟨t,ct⟩:=hO.cell bQ;have ft:=hO.frozen b;clear hO hB;go_wp2_with fail;go_roundw;case rel=>exact⟨b+1,zd,HB.1.bC b true,HB.2.setCell ae _⟩
      case measure=>exact z9L
     ·clear hO hB;have fq:(k:Int)<(l.length:Int):=z7;go_wp2_with fail;go_roundw;case rel=>exact⟨k+1,zd,z7,HB.1,HB.2⟩
      case measure=>exact z9L
   ·exact zcK (zt 3)):P:=h t
theorem zbe (t:Q) (h:Q→P:=by
 intro zu;refine aW [_] fun K hK=>?_;obtain⟨a0,a4,a8,a1,a2,a3,a6,a7,a9,A,nn,c,made,jq,lV⟩:=HQ.1.look f.key jf.out;have wY:Hid (Uu E st f.key made [.string a0,.int .i64 a1,.int .i64 a2,.int .i64 a3,.string a4,.slice A nn c,.int .i64 a6,.int .i64 a7,.string a8,.int .i64 a9,.int .i64 0] wq):=lV;clear lV;go_wp2_with fail;refine ay.go hK ?_;clear hK K
 first
 |cases(zu:Zt 0);clear jq;refine cmBa3 ?_;exact z6l
 |cases(zu:Zt 1);refine au ?_;show aA _ _ _ _ _ _ _ _ _;clear jq;refine cmBa3 ?_;refine aW [_] fun K hK=>?_;exact zaR (zt 1)):P:=h t
theorem zbf (t:Q) (h:Q→P:=by intro zu;show aA _ _ _ _ _ _ _ _ _;exact zbx (zt 8)):P:=h t
theorem zbg (t:Q) (h:Q→P:=by
 intro zu;obtain⟨A1,c1,rfl,_⟩:=h1.open_;obtain⟨A2,c2,rfl,_⟩:=h2.open_;obtain⟨A3,c3,rfl,_⟩:=h3.open_;obtain⟨A4,c4,rfl,_⟩:=h4.open_
 first
 |cases(zu:Zt 0);obtain⟨sp,rfl,h6,h7⟩:=h5;obtain⟨A5,c5,rfl,_⟩:=h6.open_;exact⟨A1,c1,A2,c2,A3,c3,A4,c4,A5,c5,rfl,h1,h2,h3,h4,⟨_,rfl,h6,h7⟩⟩
 |cases(zu:Zt 1);obtain⟨sp,rfl,h6,h7⟩:=h5;obtain⟨A5,c5,rfl,_⟩:=h6.open_;exact⟨ht,_,A1,c1,_,_,A2,_,c2,A3,_,c3,A4,_,c4,_,_,_,_,A5,_,c5,rfl⟩
 |cases(zu:Zt 2);obtain⟨b0,b1,b2,b3,A5,n5,c5,rfl⟩:=Df h5;exact⟨_,_,_,_,_,_,_,_,_,_,_,_,_,_,_,_,_,_,_,_,_,_,_,rfl⟩
 |cases(zu:Zt 3);obtain⟨b0,b1,b2,b3,A5,n5,c5,rfl⟩:=Df h5;exact⟨h6,_,_,_,_,_,_,_,_,_,_,_,_,_,_,_,_,_,_,_,_,_,_,rfl⟩):P:=h t
theorem zbh (t:Q) (h:Q→P:=by
 intro zu;obtain⟨c0,c1,c2,c3,c4,c5,c6,c7⟩:=mO.out _ HB.out;obtain⟨f0,f1,f2,f3,f4,f5,f6,f7,f8,f9,f10,f11,f12⟩:=yT.out _ HB.out
 first
 |cases(zu:Zt 0);obtain⟨e0,e1⟩:=CY.out _ HB.out;go_wp2_with fail;clear c0 c1 c2 c3 c4 c5 c6 c7 f0 f1 f2 f3 f4 f5 f6 f7 f8 f9 f10 f11 f12 e0 e1;exact zcO (zt 1)
 |cases(zu:Zt 1);go_wp2_with fail;clear c0 c1 c2 c3 c4 c5 c6 c7 f0 f1 f2 f3 f4 f5 f6 f7 f8 f9 f10 f11 f12;exact zcO (zt 0)
 |cases(zu:Zt 2);go_wp2_with fail;have dI:=bt lD.out HB.out;refine(Qd (fun _=>True) _ f.dflt _ x.attrs _ (iZ.weaken (iZ.keep JM.out fun q _ hl=>dI.block q hl) fun _ _ _=>trivial) ((yu.below fJ dI).weaken fJ z7 fun _ _ _=>trivial)).mono ?_;rintro ez7 w7 ⟨⟨ne7,rfl⟩,eO⟩;have jR:=aa (bt HB.out eO);clear c0 c1 c2 c3 c4 c5 c6 c7 f0 f1 f2 f3 f4 f5 f6 f7 f8 f9 f10 f11 f12 eO dI;cases hq7:(ne7 !=0);rotate_left
  ·exact z8A
  obtain⟨c0,c1,c2,c3,c4,c5,c6,c7⟩:=mO.out _ jR.out;obtain⟨f0,f1,f2,f3,f4,f5,f6,f7,f8,f9,f10,f11,f12⟩:=yT.out _ jR.out;go_wp2_with fail;refine(nC JE _ f.rules _ (Iq.below bM (bt lD.out jR.out)) og.ex og.rules).mono ?_;rintro e8 w8 ⟨⟨vu,lu,nu,oku,rfl,hlu,_⟩,iR⟩;obtain⟨Au,cu,rfl,_,_⟩:=hlu.open_;have dL:=aa (bt jR.out iR);clear hlu iR;clear c0 c1 c2 c3 c4 c5 c6 c7 f0 f1 f2 f3 f4 f5 f6 f7 f8 f9 f10 f11 f12;generalize lu.length=nlu;cases oku
  ·exact z7A
  ·by_cases h0:(0:Int)<(nlu:Int)
   ·exact z7A
   ·exact z7A
 |cases(zu:Zt 3);go_wp2_with fail;clear c0 c1 c2 c3 c4 c5 c6 c7 f0 f1 f2 f3 f4 f5 f6 f7 f8 f9 f10 f11 f12;have aS:=aa uO.out;clear uO HB;go_loopw [8] (fun i wr=>∃k:Nat,i= .int .i64 (k:Int)∧k≤q4∧Below w3.heap.size w3 wr) (fun i _=>q4-(intOf i).toNat);case atStart=>exact⟨0,rfl,z7,aS.out⟩
  case round=>
   clear aS;obtain⟨j,rfl,hj,uN⟩:=hrel;have uO:=aa uN;have HB:=aa (bt kG.out uN);clear uN;by_cases hlt:j<q4
   ·have bR:j<f.rules.length:=by have:=HN.2.2.2;omega
    obtain⟨ad,cs,had,aY,aI,hR,hcell⟩:=Iq.cB bM bR;subst had;obtain⟨ce,cse,hcs,hce,oN,_⟩:=hR _ aj;obtain⟨a0,a1,a2,Ax3,nx3,cx3,Ax5,nx5,cx5,rfl⟩:=nL hce;obtain⟨b0,b1,b2,b3,Ax6,nx6,cx6,rfl⟩:=Df oN;exact zcP (zt 3)
   ·obtain rfl:j=q4:=z7;exact zbh (zt 2)):P:=h t
theorem zbi (t:Q) (h:Q→P:=by
 intro zu;obtain⟨lv,rfl,hl,_⟩:=hv;obtain⟨lv2,rfl,bX,_⟩:=iG;have HL:=ag hl bX;obtain⟨A,c,rfl,_,_⟩:=hl.open_;obtain⟨A2,c2,rfl,_,_⟩:=bX.open_;clear hl bX;obtain⟨kd,num,text,list⟩:=x;obtain⟨gB,tT,nR,wC⟩:=y;simp only[sv,iv];simp only at HL;generalize hn:list.length=n at*;generalize iC:wC.length=n2 at*;clear hn iC
 first
 |cases(zu:Zt 0);go_enter func255,ntmps255;exact z6i
 |cases(zu:Zt 1);go_enter func180,ntmps180;exact z6i):P:=h t
theorem zbj (t:Q) (h:Q→P:=by
 intro zu;obtain⟨A,cp,rfl,dx,dC⟩:=hv.open_;have HV:=aa hv;have HC:=aa hc;clear hv hc
 first
 |cases(zu:Zt 0);go_enter func150,ntmps150;go_wp2_with fail;go_loopw [8] (fun x wr=>∃k:Nat,x= .int .i64 (k:Int)∧∃hk:k≤l.length,(∀j (hj:j<k),p (l[j]'z7)=false)∧Below w.heap.size w wr) (fun x _=>l.length-(intOf x).toNat);case atStart=>exact z6C
  case round=>exact zbE (zt 0)
 |cases(zu:Zt 1);go_enter func208,ntmps208;go_wp2_with fail;go_loopw [8] (fun x wr=>∃k:Nat,x= .int .i64 (k:Int)∧∃hk:k≤l.length,(∀j (hj:j<k),p (l[j]'z7)=false)∧Below w.heap.size w wr) (fun x _=>l.length-(intOf x).toNat);case atStart=>exact z6C
  case round=>exact zbE (zt 1)
 |cases(zu:Zt 2);go_enter func51,ntmps51;go_wp2_with fail;go_loopw [8] (fun x wr=>∃k:Nat,x= .int .i64 (k:Int)∧∃hk:k≤l.length,(∀j (hj:j<k),p (l[j]'z7)=false)∧Below w.heap.size w wr) (fun x _=>l.length-(intOf x).toNat);case atStart=>exact z6C
  case round=>exact zbE (zt 2)
 |cases(zu:Zt 3);go_enter func117,ntmps117;go_wp2_with fail;go_loopw [8] (fun x wr=>∃k:Nat,x= .int .i64 (k:Int)∧∃hk:k≤l.length,(∀j (hj:j<k),p (l[j]'z7)=false)∧Below w.heap.size w wr) (fun x _=>l.length-(intOf x).toNat);case atStart=>exact z6C
  case round=>exact zbE (zt 3)
 |cases(zu:Zt 4);go_enter func174,ntmps174;go_wp2_with fail;go_loopw [8] (fun x wr=>∃k:Nat,x= .int .i64 (k:Int)∧∃hk:k≤l.length,(∀j (hj:j<k),p (l[j]'z7)=false)∧Below w.heap.size w wr) (fun x _=>l.length-(intOf x).toNat);case atStart=>exact z6C
  case round=>exact zbE (zt 4)
 |cases(zu:Zt 5);go_enter func175,ntmps175;go_wp2_with fail;go_loopw [8] (fun x wr=>∃k:Nat,x= .int .i64 (k:Int)∧∃hk:k≤l.length,(∀j (hj:j<k),p (l[j]'z7)=false)∧Below w.heap.size w wr) (fun x _=>l.length-(intOf x).toNat);case atStart=>exact z6C
  case round=>exact zbE (zt 5)
 |cases(zu:Zt 6);go_enter func220,ntmps220;go_wp2_with fail;go_loopw [8] (fun x wr=>∃k:Nat,x= .int .i64 (k:Int)∧∃hk:k≤l.length,(∀j (hj:j<k),p (l[j]'z7)=false)∧Below w.heap.size w wr) (fun x _=>l.length-(intOf x).toNat);case atStart=>exact z6C
  case round=>exact zbE (zt 6)
 |cases(zu:Zt 7);go_enter func221,ntmps221;go_wp2_with fail;go_loopw [8] (fun x wr=>∃k:Nat,x= .int .i64 (k:Int)∧∃hk:k≤l.length,(∀j (hj:j<k),p (l[j]'z7)=false)∧Below w.heap.size w wr) (fun x _=>l.length-(intOf x).toNat);case atStart=>exact z6C
  case round=>exact zbE (zt 7)
 |cases(zu:Zt 8);go_enter func222,ntmps222;go_wp2_with fail;go_loopw [8] (fun x wr=>∃k:Nat,x= .int .i64 (k:Int)∧∃hk:k≤l.length,(∀j (hj:j<k),p (l[j]'z7)=false)∧Below w.heap.size w wr) (fun x _=>l.length-(intOf x).toNat);case atStart=>exact z6C
  case round=>exact zbE (zt 8)):P:=h t
theorem zbk (t:Q) (h:Q→P:=by
 intro zu;go_wp2_with(at_builtin;refine gF rfl _ (.tmp 49) rfl qy.heap.size _ [] rfl (Ow.nil wq qy.heap.size (fun _=>False)) lt' _ _ rfl z2i iI.todo.sl.2 z14 dM.size ?_;intro v1 w5 sZ gP _);have eG:=lY (show wq.grownBy w5 none from gP);have bW:=aa sZ;try replace aK:=aa (aK.below eG)
 replace iI:=aa (iI.below eG);replace dM:=aa (bt dM.out eG)
 first
 |cases(zu:Zt 0);refine ay.go hK ?_;clear hK K;clear eG gP sZ;obtain⟨wq,rfl⟩:∃z,z=w5:=⟨_,rfl⟩;exact z96
 |cases(zu:Zt 1);refine ay.go hK ⟨eG,?_⟩;clear hK K;refine au ?_;show aA _ _ _ _ _ _ _ _ _;clear eG gP sZ;obtain⟨wq,rfl⟩:∃z,z=w5:=⟨_,rfl⟩;exact zaG (zt 1)):P:=h t
theorem zbl (t:Q) (h:Q→P:=by intro zu;exact zbx (zt 1)):P:=h t
theorem zbm (t:Q) (h:Q→P:=by
 intro zu;go_wp2_with fail;go_quiet(fail);go_wp2_with fail
 first
 |cases(zu:Zt 0);have h0:1≤hv:=z7;have e1:(hv:Int)-1=((hv-1:Nat):Int):=z7;go_roundw
  case rel=>
   refine⟨b,upd f b 0,upd has (q+1) (hv-1),rfl,z7,?_,?_⟩
   ·have:=((rZ.drewN nq).setH (q+1) (hv-1)).afp b 0;rw[e1];exact this
   ·have:=HP.aqS z7 (by rw[HQ.out];omega) (by rw[HQ.out];exact Jl.2) (by rw[HQ.out,HH.1,HH.2];omega);rw[HQ.out,HH.1] at this;exact this
  case measure=>simp[intOf]
 |cases(zu:Zt 1);go_roundw;case rel=>exact⟨b,f,has,rfl,z7,rZ.drewN nq,HP.stay (by rw[HQ.out,HH.1,HH.2];omega)⟩
  case measure=>simp[intOf]
 |cases(zu:Zt 2);go_roundw;case rel=>exact⟨⟨1,zd,z7,oP.trans (below_drewN aj _),fun j hj h=>z7⟩⟩
  case measure=>exact z9L
 |cases(zu:Zt 3);go_ret;rw[HX.out,KG.out,yO.out];exact⟨by simp[H20.out],below_drewN dL.out _⟩
 |cases(zu:Zt 4);go_roundw
  case rel=>exact⟨⟨k2+1,zd,z7,oP.trans (below_drewN aj _),fun j hj h=>by
   rcases vH.out j hj h with h|⟨h1,h2⟩
   ·exact HA.out j hj h
   ·rw[h1,h2];exact yO.out⟩⟩
  case measure=>exact z9L
 |cases(zu:Zt 5);go_ret3;exact⟨⟨_,[],_,_,rfl,Ls.nil _ _,zd⟩,below_drewN JJ.lo _⟩
 |cases(zu:Zt 6);go_ret3;exact⟨⟨_,lo,_,_,rfl,(HU.ou.drewN yZ _).ls yZ z7 z4J (fun _ h _=>h.elim) (fun q hq=>(HU.ou.lt q hq).1),z4J⟩,below_drewN HU.lo _⟩
 |cases(zu:Zt 7);go_roundw;case rel=>exact⟨q+1+1,zd,z7,rZ.drewN nq,HQ.on QF z3e,HO.out⟩
  case measure=>exact z9L
 |cases(zu:Zt 8);go_roundw;case rel=>exact⟨k+1,zd,z7,by rw[HT.1,HT.2,El.1,El.2,HE.out,HY.out],below_drewN HB.out _⟩
  case measure=>exact z9L
 |cases(zu:Zt 9);go_ret;refine⟨congrArg (fun b=>Ending.returned (Value.bool b)) (decide_eq_false ?_).symm,below_drewN HB.out _⟩;intro h;have h1:=HT.2;rw[h,El.2] at h1;injection h1 with h1;have:=HY.out;rw[h1] at this;simp at this
 |cases(zu:Zt 10);go_ret2;have h5:=jA.out;have h6:=HL.out;exact⟨y.yes,y.no,rfl,h5.2.2.1,h5.2.2.2.1,z7,z7,below_drewN aj _⟩
 |cases(zu:Zt 11);go_ret;exact⟨rfl,nq,rfl⟩):P:=h t
theorem zbn (t:Q) (h:Q→P:=by
 intro zu;simp only[sv] at e0;have HP:=aa (hP.alloc ax (.cells #[.string ⟨y.toArray⟩] 9));have HM:=aa (Sl.single (w:=wr) (av:=fun _=>True) (.string ⟨y.toArray⟩) 9 trivial)
 first
 |cases(zu:Zt 0);clear rF hcell hR aI hP ale;go_wp2_with(at_builtin;refine aU rfl (.tmp 12) (.tmp 19) _ rfl w1.heap.size 9 i0 _ 1 16 underlying58 hi hz hs dA rfl z7 ax _ _ rfl HP.ow [[.string ⟨y.toArray⟩]] [y] _ _ rfl HM.out rfl zd zw z1a z19 z7 z3H ?_;intro v2 w2 kV bK pz;clear c0 c1_ Gu c3 c4 c5 c6 c7 e0);exact z6v
 |cases(zu:Zt 1);skip;clear rF hcell hR aI hP;go_wp2_with(at_builtin;refine aU rfl (.tmp 11) (.tmp 17) _ rfl w.heap.size 9 i0 _ 1 16 underlying58 hi hz hs dA rfl z7 ax _ _ rfl HP.ow [[.string ⟨y.toArray⟩]] [y] _ _ rfl HM.out rfl zd zw z1a z19 z7 z3H ?_;intro v2 w2 kV bK pz);exact z6v
 |cases(zu:Zt 2);obtain⟨c0,c1,c2,c3,c4,c5,c6,c7⟩:=HC.out _ hP.lo;clear rF hcell hR aI hP;go_wp2_with(at_builtin;refine aU rfl (.tmp 12) (.tmp 19) _ rfl w1.heap.size 9 i0 _ 1 16 underlying58 hi hz hs dA rfl z7 ax _ _ rfl HP.ow [[.string ⟨y.toArray⟩]] [y] _ _ rfl HM.out rfl zd zw z1a z19 z7 z3H ?_;intro v2 w2 kV bK pz);exact z6v):P:=h t
theorem zbo (t:Q) (h:Q→P:=by
 intro zu;have dY:(k:Int)<(nk:Int):=z7;have aX:k<kids.length:=z1q;obtain⟨ad,cy,had,aY,aI,Ck,hcell⟩:=(HK.dV (az d) HR.lo qI.out).at_ aX;subst had;obtain⟨I7,Jb,Ja,A5,n5,c5,A6,n6,c6,rfl⟩:=lJ Ck;obtain⟨y0,y1,y2,y3,y4⟩:=cells5 hcell;have HY:=aa Ck
 first
 |cases(zu:Zt 0);have jf:=aa (Cm (gI d) aX (l));have Cv:=aa (Fx.2 _ (List.getElem_mem aX));have jQ:Hid (((kids.take k).foldl (gI d) (l)).length+dB d≤900000):=qw.out k aX;exact zap (zt 0)
 |cases(zu:Zt 1);have jf:=aa (Cm (gI d) aX ((l++[EX.mk op kind name vals kids])));have Cv:=aa (Fx.2 _ (List.getElem_mem aX));have jQ:Hid (((kids.take k).foldl (gI d) ((l++[EX.mk op kind name vals kids]))).length+dB d≤900000):=qw.out k aX;exact zap (zt 1)):P:=h t
theorem zbp (t:Q) (h:Q→P:=by
 intro zu;have HLn:=aa HP.len;go_wp2_with(at_builtin;refine gT _ rfl (.tmp 11) (.tmp 16) _ rfl w.heap.size 134 i0 _ 2 16 underlying87 hi hz hs dA rfl z7 _ _ _ rfl HO.out _ _ _ _ rfl HW.out z2d z4A (by have:=HLn.out;omega) (by have:=HB.size;omega) ?_;intro v2 w2 pM bK pz);obtain⟨A5,c5,rfl⟩:=Qs pM
 first
 |cases(zu:Zt 0);go_roundw;case rel=>refine⟨0+1,A5,c5,l++[⟨0,1⟩],zd,zd,z7,HP.add (k:=0) (show 0<10000 from z7) rfl HO.out (by unfold Sr;simpa [G6] using pM) bK⟩
  case measure=>simp[intOf]
 |cases(zu:Zt 1);go_roundw;case rel=>refine⟨k+1,A5,c5,l++[⟨(k:Int),(k:Int)+1⟩],zd,zd,z7,HP.add (show k<10000 from z7) rfl HO.out (by unfold Sr;simpa [G6] using pM) bK⟩
  case measure=>exact z9L):P:=h t
theorem zbq (t:Q) (h:Q→P:=by
 intro zu;obtain⟨xk,bT⟩:=bT;have bV:=aa (fun(W:World) (hW:Below w.heap.size w W)=>cell0 (bZ W hW) bT);clear bZ fG iU bT
 first
 |cases(zu:Zt 0);obtain⟨e0,e1,e2,e3,e4,e5,e6,e7,e8,e9,fe,iD⟩:=HC.out _ HB.out;have g0:=bV.out _ HB.out;go_wp2_with(first|(go_at_call 142;refine(Ie av _ _ _ (HR.out _ HB.out) (HT.below HB.out)).mono ?_;rintro q3 w3 ⟨⟨b,rfl⟩,hb⟩;replace HB:=aa (bt HB.out hb);clear g0 e0 e1 e2 e3 e4 e5 e6 e7 e8 e9 fe iD hb;obtain⟨e0,e1,e2,e3,e4,e5,e6,e7,e8,e9,fe,iD⟩:=HC.out _ HB.out;have g0:=bV.out _ HB.out))
  repeat' first
    | (go_ret
       exact⟨⟨_,rfl⟩,z8⟩)
    | (go_roundw
       case rel=>exact⟨k+1,zd,z7,z8⟩
       case measure=>simp[intOf];omega)
    | (go_quiet(fail)
       go_wp2_with fail)
 |cases(zu:Zt 1);obtain⟨e0,e1,e2,e3,e4,e5,e6,e7,e8,e9,fe,iD,JA⟩:=HC.out _ HB.out;have g0:=bV.out _ HB.out;go_wp2_with(first|(go_at_call 140;refine(TM av _ _ _ (HR.out _ HB.out) (HT.below HB.out)).mono ?_;rintro q3 w3 ⟨⟨b,rfl⟩,hb⟩;replace HB:=aa (bt HB.out hb);clear g0 e0 e1 e2 e3 e4 e5 e6 e7 e8 e9 fe iD JA hb;obtain⟨e0,e1,e2,e3,e4,e5,e6,e7,e8,e9,fe,iD,JA⟩:=HC.out _ HB.out;have g0:=bV.out _ HB.out))
  repeat' first
    | (go_ret
       exact⟨⟨_,rfl⟩,z8⟩)
    | (go_roundw
       case rel=>exact⟨k+1,zd,z7,z8⟩
       case measure=>simp[intOf];omega)
    | (go_quiet(fail)
       go_wp2_with fail)
 |cases(zu:Zt 2);obtain⟨e0,e1,e2,e3,e4,e5,e6,e7,e8⟩:=HC.out _ HB.out;have g0:=bV.out _ HB.out;go_wp2_with(first|(go_at_call 139;refine(L6 av _ _ _ (HR.out _ HB.out) (HT.below HB.out)).mono ?_;rintro q3 w3 ⟨⟨b,rfl⟩,hb⟩;replace HB:=aa (bt HB.out hb);clear g0 e0 e1 e2 e3 e4 e5 e6 e7 e8 hb;obtain⟨e0,e1,e2,e3,e4,e5,e6,e7,e8⟩:=HC.out _ HB.out;have g0:=bV.out _ HB.out))
  repeat' first
    | (go_ret
       exact⟨⟨_,rfl⟩,z8⟩)
    | (go_roundw
       case rel=>exact⟨k+1,zd,z7,z8⟩
       case measure=>simp[intOf];omega)
    | (go_quiet(fail)
       go_wp2_with fail)
 |cases(zu:Zt 3);obtain⟨e0,e1,e2,e3,e4,e5⟩:=HC.out _ HB.out;have g0:=bV.out _ HB.out;go_wp2_with(first|(go_at_call 141;refine(Qx av _ _ _ (HR.out _ HB.out) (HT.below HB.out)).mono ?_;rintro q3 w3 ⟨⟨b,rfl⟩,hb⟩;replace HB:=aa (bt HB.out hb);clear g0 e0 e1 e2 e3 e4 e5 hb;obtain⟨e0,e1,e2,e3,e4,e5⟩:=HC.out _ HB.out;have g0:=bV.out _ HB.out))
  repeat' first
    | (go_ret
       exact⟨⟨_,rfl⟩,z8⟩)
    | (go_roundw
       case rel=>exact⟨k+1,zd,z7,z8⟩
       case measure=>simp[intOf];omega)
    | (go_quiet(fail)
       go_wp2_with fail)):P:=h t
theorem zbr (t:Q) (h:Q→P:=by
 intro zu;have hn:=fun w=>Kw w (some ad) l.length c;clear hcell Kj;go_enter func85,ntmps85
 go_wp2_with
   (at_builtin;refine gT _ rfl (.tmp 5) (.tmp 6) _ rfl w.heap.size 9 i0 _ 1 16 underlying58 hi Be vB DZ rfl z7 _ _ _ rfl (abx w) av _ _ _ rfl (Sl.alloc hs _) YI zX z7 zd ?_;intro v2 w2 pM bK pz)
 go_ret
 first
 |cases(zu:Zt 0);exact⟨v2,rfl,Ow.F7 (by simpa using pM) ht,BD ((Below.refl _ _).alloc ae _) zd (abx w) ae bK⟩
 |cases(zu:Zt 1);exact⟨v2,rfl,Ls.F7 (by simpa using pM) (fun k hk=>hk) hle ht,BD ((Below.refl _ _).alloc ae _) zd (abx w) ae bK⟩):P:=h t
theorem zbs (t:Q) (h:Q→P:=by
 intro zu;obtain⟨op,kd,nm,A1,n1,c1,A2,n2,c2,rfl⟩:=lJ he;obtain⟨A0,jG,rfl,_,_⟩:=hs.open_;obtain⟨Ai,ci,rfl,_,_⟩:=hi.open_;have HE:=aa he;have HS:=ag hs hi;have HG:=ag h1 h2;have HT:=aa hT;clear he hs hi h1 h2 hT;generalize s.length=ns at*;generalize ins.length=ni at*
 first
 |cases(zu:Zt 0);go_enter func127,ntmps127;exact z6m
 |cases(zu:Zt 1);go_enter func129,ntmps129;exact z6m):P:=h t
theorem zbt (t:Q) (h:Q→P:=by
 intro zu;go_wp2_with fail;refine(Tf av _ kind l _ HV.out).mono ?_;rintro e1 w1 ⟨rfl,dJ⟩;obtain⟨hb,h1,h2⟩:=HH.out;have k1:=h1.below' dJ;have k2:=h2.below' dJ;have hB:=bt hb dJ;have HW:=aa (HV.below bG dJ);clear HH HV h1 h2 hb dJ;have c0:=k1.cell 0;have d0:=k2.cell 0;have d1:=k2.cell 1;have d2:=k2.cell 2
 first
 |cases(zu:Zt 0);have f0:=k2.frozen 0;have f1:=k2.frozen 1;have f2:=k2.frozen 2;simp only[List.getElem?_toArray,List.getElem?_cons_zero,List.getElem?_cons_succ] at c0 d0 d1 d2;rcases Kc (fun x:CX=>x.kind==kind) l with⟨k,hk,ic,iL⟩|⟨ic,iL⟩
  ·rw[ic];obtain⟨ad,cs,rfl,aY,aI,hR,hcell⟩:=HW.at_ hk;have HF:=aa iL;have HR:=aa hR;generalize l[k]'hk=x at hR HR HF;obtain⟨lv,hcs,iK,hx1,Jf⟩:=hR;subst hcs;obtain⟨e0,e1,e2⟩:=cells3 hcell;simp only[sv] at e0 e1 e2;have HK:=aa k2;have HB:=aa hB;clear ic iL hB k1 k2 hcell iK;go_wp2_with fail;refine(ab6 av _ x w1 HR.out).mono ?_;rintro e3 w3 ⟨⟨A4,n4,c4,rfl⟩,dA⟩;have k3:=HK.below' dA;have uN:=bt HB.out dA;clear c0 d0 d1 d2 f0 f1 f2 e0 e1 e2;have d0:=k3.cell 0;have d1:=k3.cell 1;have d2:=k3.cell 2;have f0:=k3.frozen 0;have f1:=k3.frozen 1;have f2:=k3.frozen 2;simp only[List.getElem?_toArray,List.getElem?_cons_zero,List.getElem?_cons_succ] at d0 d1 d2;have HE:=ag (k3.O3 (.string ⟨x.kind.toArray⟩) (.string ⟨x.key.toArray⟩) (.slice A4 n4 c4)) uN;clear k3 uN dA;go_wp2_with fail;refine bodyPost_ret (YM rfl rfl rfl HE.1) rfl ?_;exact⟨((HE.2.setCell zk _).setCell zk _).setCell zk _,.inr ⟨x,A4,n4,c4,HF.out,rfl⟩⟩
  ·rw[ic];have HK:=aa (k2.O3 (.string ⟨#[]⟩) (.string ⟨#[]⟩) (.slice none 0 0));have HB:=aa hB;have HF:=aa iL;clear ic iL hB;go_wp2_with fail;refine bodyPost_ret (YM rfl rfl rfl HK.out) rfl ?_;exact⟨((HB.setCell zk _).setCell zk _).setCell zk _,.inl ⟨HF.out,rfl⟩⟩
 |cases(zu:Zt 1);have d3:=k2.cell 3;have f0:=k2.frozen 0;have f1:=k2.frozen 1;have f2:=k2.frozen 2;have f3:=k2.frozen 3;simp only[List.getElem?_toArray,List.getElem?_cons_zero,List.getElem?_cons_succ] at c0 d0 d1 d2 d3;rcases Kc (fun x:CX=>x.kind==kind) l with⟨k,hk,ic,iL⟩|⟨ic,iL⟩
  ·rw[ic];obtain⟨ad,cs,rfl,aY,aI,hR,hcell⟩:=HW.at_ hk;have HF:=aa iL;generalize l[k]'hk=x at hR HF;obtain⟨lv,hcs,iK,hx1,Jf⟩:=hR;subst hcs;obtain⟨e0,e1,e2⟩:=cells3 hcell;simp only[sv] at e0 e1 e2;obtain⟨A2,c2,hq,Gh,Js⟩:=iK.open_;generalize iC:x.attrs.length=n2 at hq;subst hq;have HK:=aa k2;have HB:=aa hB;have nM:=aa iK;have bR:=k2.lt;clear ic iL hB k1 k2 hcell iK;by_cases Bp:name=[107,101,121]
   ·have HL:=aa (show Dy l kind name=some ⟨3,0,x.key,[]⟩ by unfold Dy lW;rw[HF.out];exact if_pos Bp);subst Bp;go_wp2_with fail;refine bodyPost_ret (Ha rfl rfl rfl ((HK.Vq (.int .i64 3) (.int .i64 0) (.string ⟨x.key.toArray⟩) (.slice none 0 0)).alloc _)) rfl ?_;exact⟨((((HB.setCell zk _).setCell zk _).setCell zk _).setCell zk _).alloc (by simpa [World.setCell] using HB.size) _,[_,_,_,_],true,rfl,.inr ⟨_,HL.out,rfl,_,rfl,Ls.nil _ _,(show df 3 from z2G),(show df 0 from z2G),Jf⟩⟩
   ·have HG:=aa (show Dy l kind name=(x.attrs.find? fun a=>a.name==name).map AT.value by unfold Dy lW;rw[HF.out];exact if_neg Bp);have Jh:(name==[107,101,121])=false:=by simpa using Bp
    have HN:=aa Bp;clear Bp;have hz:=HK.alloc (.cells #[.string ⟨x.kind.toArray⟩,.string ⟨x.key.toArray⟩,.slice A2 n2 c2] 74);have vB:=(Below.refl w1.heap.size w1).alloc ae (.cells #[.string ⟨x.kind.toArray⟩,.string ⟨x.key.toArray⟩,.slice A2 n2 c2] 74);have HZ:=ag hz vB;clear hz vB HK;go_wp2_with fail;go_loopw [31] (fun i wr=>∃j:Nat,i= .int .i64 (j:Int)∧j≤n2∧(∀m (hm:m<j) y,x.attrs[m]? =some y→y.name≠name)∧ah wr (w.heap.size+1) 60 #[.int .i64 0,.int .i64 0,.string ⟨#[]⟩,.slice none 0 0]∧Below w1.heap.size w1 wr) (fun i _=>n2-(intOf i).toNat);case atStart=>exact⟨0,rfl,z7,fun m hm=>absurd hm z7,HZ.1,HZ.2⟩
    case round=>
     clear HZ e0 e1 e2 c0 d0 d1 d2 d3 f0 f1 f2 f3;obtain⟨j,rfl,hj,hno,k2,fZ⟩:=hrel;have yP:=aa hno;have HK:=ag k2 fZ;have d0:=k2.cell 0;have d1:=k2.cell 1;have d2:=k2.cell 2;have d3:=k2.cell 3;have f0:=k2.frozen 0;have f1:=k2.frozen 1;have f2:=k2.frozen 2;have f3:=k2.frozen 3;have akO:=k2.lt;simp only[List.getElem?_toArray,List.getElem?_cons_zero,List.getElem?_cons_succ] at d0 d1 d2 d3;by_cases hjn:j<n2
     ·have Ty:j<x.attrs.length:=z7;obtain⟨tH,il,rfl,mF,iU,fG,bZ⟩:=(nM.below wQ fZ).at_ Ty;have Je:x.attrs[j]? =some (x.attrs[j]'Ty):=List.getElem?_eq_getElem Ty;generalize x.attrs[j]'Ty=y at fG Je;have HYA:=aa Je;obtain⟨cv,rfl,⟨yl,rfl,Y3,hy1,hy2,hy3⟩,hy4⟩:=fG;exact zcu (zt 1)
     ·obtain rfl:j=n2:=z7;clear k2 fZ hno;have HE:=aa (HK.1.Vq (.int .i64 0) (.int .i64 0) (.string ⟨#[]⟩) (.slice none 0 0))
      have anI:=aa (show x.attrs.find? (fun a=>a.name==name)=none from List.find?_eq_none.2 fun z hz=>by
        obtain⟨m,hm,e⟩:=List.getElem_of_mem hz
        simpa using yP.out m z7 z (by rw[List.getElem?_eq_getElem hm,e]))
      go_wp2_with fail;refine bodyPost_ret (Ha rfl rfl rfl HE.out) rfl ?_;have oP:=bt HB.out HK.2;exact⟨(((oP.setCell zk _).setCell zk _).setCell zk _).setCell zk _,[_,_,_,_],false,rfl,.inl ⟨by rw[HG.out,anI.out];rfl,rfl,rfl⟩⟩
  ·rw[ic];have HK:=aa (k2.Vq (.int .i64 0) (.int .i64 0) (.string ⟨#[]⟩) (.slice none 0 0));have HB:=aa hB;have HL:=aa (show Dy l kind name=none by unfold Dy lW;rw[iL]);clear ic iL hB;go_wp2_with fail;refine bodyPost_ret (Ha rfl rfl rfl HK.out) rfl ?_;exact⟨(((HB.setCell zk _).setCell zk _).setCell zk _).setCell zk _,[_,_,_,_],false,rfl,.inl ⟨HL.out,rfl,rfl⟩⟩):P:=h t
theorem zbu (t:Q) (h:Q→P:=by
 intro zu;go_ret;have dI:Below w.heap.size (w7) w8:=dU (aH.mono HS.gr.size) (af HS.gr.size aH.size) aj|>.grown aF.2 (af HS.gr.size aH.size) (fun k hk=>(HS.ow.lt k hk).1);refine⟨⟨v8,rfl,_,aF.1.ls aT z7 zo (fun _ h _=>h.elim) (fun q hq=>(aF.1.lt q hq).1),?_⟩,HS.dw.dV dI HD.lt,dX HS.gr dI⟩
 first
 |cases(zu:Zt 0);refine⟨HS.ps.snoc ⟨at_,10000,(1+(y:Int))⟩ uG.1 uG.2.1 HS.ea HS.lt uG.2.2,zo,?_⟩;have hl:(l++[(⟨at_,10000,(1+(y:Int))⟩:RG)]).length=l.length+1:=zd;rw[hl];exact qJ l ⟨at_,10000,(1+(y:Int))⟩
 |cases(zu:Zt 1);refine⟨HS.ps.snoc ⟨at_,10000,(1+(1+(y:Int))%(n:Int))⟩ uG.1 uG.2.1 HS.ea HS.lt uG.2.2,zo,?_⟩;have hl:(l++[(⟨at_,10000,(1+(1+(y:Int))%(n:Int))⟩:RG)]).length=l.length+1:=zd;rw[hl];exact qJ l ⟨at_,10000,(1+(1+(y:Int))%(n:Int))⟩):P:=h t
theorem zbv (t:Q) (h:Q→P:=by
 intro zu;subst hcs;obtain⟨e0,e1,e2⟩:=cells3 hcell;simp only[iv] at e0 e1 e2;obtain⟨lo,jO⟩:∃lo:Nat,r.lo=(lo:Int):=⟨r.lo.toNat,z7⟩;obtain⟨hi,Jj⟩:∃hi:Nat,r.hi=(hi:Int):=⟨r.hi.toNat,z7⟩;rw[jO] at e0;rw[Jj] at e1
 first
 |cases(zu:Zt 0);clear hcell aI;have HAt:=aa (hV.at_ m r hr);have HUp:=aa (uU hr);have HPk:=aa (fun(b:Int) (h1:r.lo≤b) (h2:b<r.hi)=>hV.toPS.pick hr h1 h2);clear hr e2;go_wp2_with fail;go_loopw [5] (fun x W=>Bx (∃(b:Nat) (f2:Nat→Int),x= .int .i64 (b:Int)∧lo≤b∧b≤hi∧Ar W w.heap.size 3 10000 f2∧Below w.heap.size w W∧∀j:Nat,j<10000→(hi≤j∨(lo≤j∧j<b))→f2 j=pick l (j:Int))) (fun x _=>hi-(intOf x).toNat);case atStart=>exact⟨⟨lo,f,rfl,Nat.le_refl _,z7,GL.1,GL.2.1,fun j hj h=>GL.2.2 j hj (by rw[HUp.out];omega)⟩⟩
  case round=>
   clear e0 e1 GL;obtain⟨⟨b,f2,rfl,dJ,bQ,hA,hB,hp⟩⟩:=hrel;have GL:=ag hA (ai hB hp);obtain⟨tH,il,had,_,_,⟨qO,_⟩,bZ⟩:=uJ.out _ hB;injection had with had;subst had;subst qO;obtain⟨e0,e1,e2⟩:=cells3 bZ;simp only[iv] at e0 e1 e2;rw[jO] at e0;rw[Jj] at e1;clear bZ hp hB;by_cases hlt:b<hi
   ·have eu:b<10000:=z7;have z:=hA.cell eu;have y:=hA.frozen b;clear hA;go_wp2_with fail;go_roundw
    case rel=>
     refine⟨⟨b+1,_,zd,z7,z7,GL.1.bC b r.var,GL.2.1.setCell ae _,fun j hj h=>?_⟩⟩;unfold Aj;by_cases hjb:j=b
     ·subst hjb;rw[if_pos rfl];exact(HPk.out (j:Int) z7 z7).symm
     ·rw[if_neg hjb];exact GL.2.2 j hj z7
    case measure=>exact z9L
   ·clear hA;go_wp2_with fail;go_roundw;case rel=>refine⟨⟨m,f2,zd,z7,GL.1,GL.2.1,fun j hj h=>GL.2.2 j hj ?_⟩⟩;have h1:=HAt.1;omega
    case measure=>simp[intOf]
 |cases(zu:Zt 1);clear U hcell;go_wp2_with fail;go_quiet(fail);have HBG:=aa HU.big;have HB:=ag (ah.new wr 71 #[.int .i64 (lo:Int),.int .i64 (hi:Int),.int .i64 r.var]) (HU.alloc (.cells #[.int .i64 (lo:Int),.int .i64 (hi:Int),.int .i64 r.var] 71));go_wp2_with fail;refine(WT (w.heap.size+1+1) g4 lo lo _ ((HB.2.drewN _).next) z7 z7 (H4.out lo (by have:=HA.1;omega) z7) (.inl rfl)).mono ?_;rintro e1 w1 ⟨rfl,pE,gP⟩;have U1:=(HB.2.drewN nq).found pE gP;have k1:=((HB.1).drewN nq).grown gP (by have:=HU.big;simp;omega);clear HB HU pE gP;have HK:=ag U1 k1;have hbg:=HBG.out;clear U1 k1 HBG;go_wp2_with fail;generalize wr.heap.size=gb at HK hbg⊢;go_loopw [11] (fun x W=>∃(i:Nat) (f3 f4:Nat→Int),x= .int .i64 (i:Int)∧lo≤i∧i≤hi∧PB w W f3 f4∧ah W gb 71 #[.int .i64 (lo:Int),.int .i64 (hi:Int),.int .i64 r.var]∧(∀j:Nat,j<10000→f3 j=if(j:Int)<i then pick l j else 0)∧∀j:Nat,i≤j→j≤10000→f4 j=(j:Int)) (fun x _=>hi-(intOf x).toNat);case atStart=>have ha:=HA.1;exact⟨lo,g3,g4,rfl,z7,z7,HK.1,HK.2,fun j hj=>by rw[H3.out j hj,←ha,jO],fun j hj Hw=>H4.out j z7 Hw⟩
  case round=>
   clear HK H3 H4;obtain⟨i,f3,f4,rfl,hi1,Wo,U,hB,h3,h4⟩:=hrel;have HU:=aa U;have H3:=aa h3;have H4:=aa h4;have HB:=aa hB;clear h3 h4;by_cases akO:i<hi
   ·have c2:wr.cell? ⟨gb,2,none⟩=some (.int .i64 r.var):=hB.cell 2;have z3:=U.vars.cell (i:=i) z7;have z4:=U.next.cell (i:=i) z7;have y3:=U.vars.frozen i;have y4:=U.next.frozen i;clear U hB;go_wp2_with fail;have V:=((HU.aiw i r.var).YK i ((i:Int)+1)).same (f3':=fun j=>if j=i then r.var else f3 j) (f4':=fun j=>if j=i then(i:Int)+1 else f4 j) (fun j _=>rfl) (fun j _=>rfl);have aS:=aa ((HB.far (p:=⟨w.heap.size+1,i,none⟩) z4Y (.int .i64 r.var)).far (p:=⟨w.heap.size+1+1,i,none⟩) z4Y (.int .i64 ((i:Int)+1)));have tK:=aa V;refine(WT (w.heap.size+1+1) _ i (i+1) _ V.next z7 z7 ?_ (.inr ⟨rfl,?_⟩)).mono ?_
    ·show(if i+1=i then _ else f4 (i+1))=_;rw[if_neg z7];exact H4.out (i+1) z7 z7
    ·show(if i=i then _ else _)=_;rw[if_pos rfl];simp
    rintro e2 w2 ⟨rfl,E8,bK⟩;have U2:=aa (tK.found E8 bK);have k2:=aa (aS.grown bK z4Y);clear aS V tK E8 bK z3 z4 y3 y4 c2;go_wp2_with fail;go_roundw
    case rel=>
     refine⟨i+1,_,_,rfl,z7,z7,U2.out,k2.out,fun j hj=>?_,fun j hj Hw=>?_⟩
     ·show(if j=i then r.var else f3 j)=_;by_cases Bu:j=i
      ·subst Bu;rw[if_pos rfl,if_pos z7];exact(hV.toPS.pick HR.out z7 z7).symm
      ·rw[if_neg Bu,H3.out j hj];by_cases h5:(j:Int)<(i:Int)
       ·rw[if_pos h5,if_pos z7]
       ·rw[if_neg h5,if_neg z7]
     ·show(if j=i then _ else f4 j)=_;rw[if_neg z7];exact H4.out j z7 Hw
    case measure=>exact z9L
   ·obtain rfl:i=hi:=z7;clear U hB;go_wp2_with fail;go_roundw
    case rel=>
     have hb:=HA.2;repeat apply Exists.intro
     exact ai ⟨⟨k+1,f3,f4,zd,z7,HU.out,fun j hj=>by rw[H3.out j hj,hb,Jj],fun j hj Hw=>H4.out j (by rw[hb,Jj] at hj;omega) Hw⟩⟩ rfl
    case measure=>exact z9L):P:=h t
theorem zbw (t:Q) (h:Q→P:=by
 intro zu;injection dQ with dQ;subst dQ;obtain⟨hcs,Ke,Ph⟩:=fG _ aj;subst hcs;have bV:=aa (fun W hW=>xJ (hcell W hW));generalize l[j]'nN=x at bV Ke Ph;simp only[sv,iv] at bV;clear hcell fG;obtain⟨e0,e1⟩:=HC.out _ HB.out;obtain⟨g0,g1⟩:=bV.out _ HB.out
 first
 |cases(zu:Zt 0);exact z6S
 |cases(zu:Zt 1);go_wp2_with(first|(go_at_call_of 138 (Value.string ⟨y.flag.toArray⟩);refine(eX _ fA _).mono ?_;rintro e3 w3 ⟨⟨b,rfl⟩,hb⟩;replace HB:=aa (bt HB.out hb);clear e0 e1 g0 g1 hb;obtain⟨e0,e1⟩:=HC.out _ HB.out;obtain⟨g0,g1⟩:=bV.out _ HB.out;cases b))
  repeat' first
    | (go_ret
       exact⟨⟨_,rfl⟩,z8⟩)
    | (go_roundw
       case rel=>exact⟨k+1,zd,z7,z8⟩
       case measure=>simp[intOf];omega)
    | (go_quiet(fail)
       go_wp2_with(first|(go_at_call_of 138 (Value.string ⟨y.flag.toArray⟩);refine(eX _ fA _).mono ?_;rintro e3 w3 ⟨⟨b,rfl⟩,hb⟩;replace HB:=aa (bt HB.out hb);clear e0 e1 g0 g1 hb;obtain⟨e0,e1⟩:=HC.out _ HB.out;obtain⟨g0,g1⟩:=bV.out _ HB.out;cases b)))):P:=h t
theorem zbx (t:Q) (h:Q→P:=by
 intro zu;refine bP rfl rfl (fun K hK=>?_);simp only[List.filterMap_cons,List.filterMap_nil,dS,List.getElem?_toArray,List.getElem?_cons_zero];show wpList _ _ _ [_] _ _;go_wp2_with fail;refine ay.go hK ?_;clear hK K
 first
 |cases(zu:Zt 0);refine cmAa10 ?_;refine au ?_
  first
  |cases(zu:Zt 0);clear jq f0 f1 f2 c0 c1 c2;have yc:ah wz.drew g 165 #[.slice A n c,.map (some b),.bool full]:=by rw[←cO.out];exact HX.1
   by_cases h4:4000≤n
   ·have h4i:(4000:Int)≤(n:Int):=z7;obtain⟨c0,c1,c2⟩:=yc.c3;have f2:=yc.frozen 2;have HBK:=aa yc;clear yc;go_wp2_with fail;go_ret;have hB:=HZ.2.drew;have sW:ah (wz.drew.setCell ⟨g,2,none⟩ (.bool true)) g 165 #[.slice A n c,.map (some b),.bool true]:=by simpa using HBK.bC 2 (.bool true)
    have hg:wz.drew.grownBy (wz.drew.setCell ⟨g,2,none⟩ (.bool true)) (some g):=aR fD (.inl rfl) _;have hx:=HX.out;refine⟨-1002,own,[],rfl,?_,.inl rfl,(Wr.of_below own hB).trans (Wr.Az hg ((hx.2.2.2.2.1 g).2 (.inl rfl)))⟩;rw[List.append_nil];refine⟨⟨A,c,true,m,?_,?_,?_,hx.2.2.2.1,hx.2.2.2.2.1,hx.2.2.2.2.2⟩,HS.gb,HS.gl,HS.bl,HS.ok,HS.cap⟩
    ·show ah _ g _ #[.slice A l.length c,.map (some b),.bool true];rw[cO.out];exact sW
    ·exact(hx.2.1.below BQ (Below.refl wz.heap.size wz).drew).grown BQ hg (fun k hk=>by injection hk with hk;subst hk;exact⟨fun h=>h,hx.2.2.2.2.2.1⟩)
    ·exact(hx.2.2.1.same (w':=wz.drew) rfl).grown hg z3O
   ·have h4i:¬(4000:Int)≤(n:Int):=z7;have Ei:=ag yc (ai HZ0.out (ai (HX.2.1.below BQ (Below.refl wz.heap.size wz).drew) (ai (HX.2.2.1.same (w':=wz.drew) rfl) (HZ.2.drew))));have Rl:=aa HX.2.2.2;clear yc HZ0 HX HZ;generalize wz.drew=W1 at Ei⊢;obtain⟨W2,Pk,V9,bK⟩:=(Ei.2.2.2.1.same (w':=W1.drew) rfl).put Td underlying163 HK.out (.int .i64 (n:Int));have age:w.heap.size≠b:=by have:=HS.high b ((Rl.2.1 b).2 (.inr (.inl rfl)));omega
    have akY:w.heap.size≠g:=by have:=HS.high g ((Rl.2.1 g).2 (.inl rfl));omega
    have lD:Hid (ah W2 g 165 #[.slice A n c,.map (some b),.bool full]∧ah W2 w.heap.size 242 #[.int .i64 test,.int .i64 yes,.int .i64 no]∧Ow 3 ndR 242 W2 base (fun _=>False) (.slice A l.length c) l∧Mv prog 242 W2 b (uV m (.agg #[.int .i64 test,.int .i64 yes,.int .i64 no]) (some (.int .i64 (n:Int))))∧W1.grownBy W2 (some b)):=
      aa ⟨ah.grown (show ah W1.drew g _ _ from Ei.1) bK (by intro e;injection e with e;exact HS.gb e),ah.grown (show ah W1.drew w.heap.size _ _ from Ei.2.1) bK (by intro e;injection e with e;exact age e),(Ei.2.2.1.below BQ (Below.refl W1.heap.size W1).drew).grown BQ bK (fun k hk=>by injection hk with hk;subst hk;exact⟨fun h=>h,Rl.2.2.2⟩),V9,dO (sU (World.grownBy.refl W1 (some b))) bK⟩
    have HGN:=ag age akY;have asr:=aa Pk;clear V9 bK age akY Pk;obtain⟨c0,c1,c2⟩:=Ei.1.c3;go_wp2_with fail;clear c0 c1 c2;have Pk:=asr.out;obtain⟨c0,c1,c2⟩:=ah.c3 (show ah W1.drew g _ #[.slice A n c,.map (some b),.bool full] from Ei.1);obtain⟨f0,f1,f2⟩:=ah.c3 (show ah W1.drew w.heap.size _ #[.int .i64 test,.int .i64 yes,.int .i64 no] from Ei.2.1);refine dK [[.calm 0 false],[.calm 1 true,.calm 2 false,.calm 3 false,.calm 4 false,.calm 5 false],[.calm 6 true,.calm 7 false,.calm 8 false,.calm 9 false,.aB 10 none false]] none za za za za ?_;exact zbx (zt 7)
  |cases(zu:Zt 1);go_wp2_with fail;go_ret;exact jw.same HS.out (.inr (.inr (.inr ⟨j,rfl,HJ.out⟩))) HZ.2.drew
 |cases(zu:Zt 1);refine cmFa2 ?_;refine cmFa2 ?_
  first
  |cases(zu:Zt 0);clear f4 p0;refine cmCe1 ?_;refine aW [_] fun K hK=>?_;go_wp2_with(refine bu 62 rfl w1.heap.size rfl rfl Rz.z5 BM ?_;intro wz HZ);exact zbN (zt 8)
  |cases(zu:Zt 1);refine cmFa1 ?_;clear a0c a1c a2c a3c a4c y0 y1 y2 y3 y4 y5 y6 y7 y8 y9 UZ y11;refine aZ [_] fun K hK=>?_;go_wp2_with fail;refine(afg _ y wq HC.rn (Gw.out _ (bt cZ.out HB.out))).mono ?_;rintro e8 wz ⟨rfl,iR⟩;generalize yU bB E.v E.s y=zb at*;replace HC:=aa (HC.below iR);go_wp2_with fail;refine ay.go hK ⟨(Wr.of_below _ iR),?_⟩;clear hK K;clear iR;refine cmBa1 ?_;refine cmCe1 ?_;refine aW [_] fun K hK=>?_;go_wp2_with(refine bu 62 rfl w1.heap.size rfl rfl HC.z5 BM ?_;intro wy HZ);exact zbN (zt 0)
 |cases(zu:Zt 2);refine cmGa2 ?_;refine cmFa2 ?_
  first
  |cases(zu:Zt 0);refine cmFa1 ?_;clear g11 f0;refine au ?_;refine⟨?_,?_⟩;rotate_left;next=>refine aZ [_] fun K hK=>?_;exact zaR (zt 0)
   exact zbe (zt 1)
  |cases(zu:Zt 1);refine cmFa1 ?_;refine cmFa1 ?_;clear g11 f0 e0 e1 e2 e3 e4 e5 e6 e7 e8 e9 fe;refine aW [_] fun K hK=>?_;go_wp2_with(refine sK rfl (.tmp 64) (.tmp 66) (.tmp 67) 144 rfl 9 64 jY underlying144 E.md fd rfl aK.1 (.string ⟨f.key.toArray⟩) (.agg #[.string ⟨f.key.toArray⟩,.int .i64 vr,.int .i64 x.kind,.int .i64 x.num,.string ⟨x.text.toArray⟩,.slice A nn c,.int .i64 rk,.int .i64 ri,.string ⟨rn.toArray⟩,.int .i64 rb,.int .i64 0]) kl rfl rfl uR.out ?_;intro fU hm hg;have ack:=ag hm hg;clear hm hg);refine ay.go hK ?_;clear hK K;refine au ?_;have Rx:Hid (Ij wr E.av [.string ⟨f.key.toArray⟩,.int .i64 vr,.int .i64 x.kind,.int .i64 x.num,.string ⟨x.text.toArray⟩,.slice A nn c,.int .i64 rk,.int .i64 ri,.string ⟨rn.toArray⟩,.int .i64 rb,.int .i64 0] ⟨f.key,vr,x,⟨rk,ri,rn,rb⟩⟩):=aa ⟨_,rfl,Gw.out⟩;have HD7:=aa (Ry.wr' (Wr.Az ack.2 (.inl rfl)) (Ry.rn.made f.key aK.2 Rx.out ack.1 ack.2));replace Gw:=aa (aL.keep Gw.out (w':=fU) fun k hk hl=>ack.2.block k hl (by intro e;injection e with e;exact(Ry.rn.ab k hk).2 (.inl e)));have Sc:dD E.O (n+1) st f=(⟨f.key,vr,x,⟨rk,ri,rn,rb⟩⟩,⟨(f.key,⟨f.key,vr,x,⟨rk,ri,rn,rb⟩⟩)::st7.done,st7.opn.filter (fun k=>k≠f.key)⟩):=by rw[dD,HCQ.2];simp only[HCQ.1,HXV.out]
   go_wp2_with fail;go_meet;case rel=>exact⟨⟨_,_,A,nn,c,rfl,Sc,HD7.out,Gw.out⟩⟩
  |cases(zu:Zt 2);refine cmFa1 ?_;clear g12 f0;refine aW [_] fun K hK=>?_;go_wp2_with(refine aa0 rfl (.tmp 58) (.tmp 60) 145 9 4 rfl jY underlying145 E.mo fo rfl kE.1 (.string ⟨f.key.toArray⟩) kl rfl uR.out ?_;intro w9 hm hg;have HM9:=ag hm hg;clear hm hg);refine ay.go hK ?_;clear hK K;refine au ?_;have Ry:=aa (HD.wr' (Wr.Az HM9.2 (.inr rfl)) (HD.rn.closed f.key kE.2 HM9.1 HM9.2));replace Gw:=aa (aL.keep Gw.out (w':=w9) fun k hk hl=>HM9.2.block k hl (by intro e;injection e with e;exact(HD.rn.ab k hk).2 (.inr e)));clear HD HM9 kE;go_upto_region 9 with fail;replace Ry:=aa (Ry.below (Below.refl _ _).drew);replace Gw:=aa (aL.keep Gw.out (w':=w9.drew) fun k _ _=>rfl);refine aJ (.path [[.calm 0 false],[.calm 1 true,.calm 2 false],[.calm 3 true,.calm 4 false],[.calm 5 true],[.calm 6 true],[.aB 7 none false]]) none za za za ?_;show aA _ _ _ _ _ _ _ _ _;generalize w9.drew=wr at*;obtain⟨fd,K3,iL⟩:=Ry.rn.dn;have aK:=ag K3 iL;clear K3 iL;have g11:wr.cell? ⟨E.g,11,none⟩=some (.map (some E.md)):=(Ry.rn.row uS.out).cell 11;have f0:wr.cell? ⟨w.heap.size,0,none⟩=some (.string ⟨f.key.toArray⟩):=Ry.f3.cell 0;obtain⟨e0,e1,e2,e3,e4,e5,e6,e7,e8,e9,fe⟩:=Ry.d5.eU;exact zaa (zt 1)
  |cases(zu:Zt 3);refine cmFa1 ?_;clear g12 f0;refine aW [_] fun K hK=>?_;go_wp2_with(refine sK rfl (.tmp 22) (.tmp 24) (.const (.bool true)) 145 rfl 9 4 jY underlying145 E.mo fo rfl kE.1 (.string ⟨f.key.toArray⟩) (.bool true) kl rfl rfl uR.out ?_;intro w5 hm hg;have JM:=ag hm hg;clear hm hg);refine ay.go hK ?_;clear hK K;refine au ?_;have CZ:=aa (HD.wr' (Wr.Az JM.2 (.inr rfl)) (HD.rn.opened f.key kE.2 JM.1 JM.2));clear HD JM kE;obtain⟨f0,f1,f2,f3,f4,f5,f6,f7,f8,f9,f10,f11,f12⟩:=CZ.f3.nY;go_upto_region 5 with(refine bu 64 rfl b5 rfl rfl CZ.d5 xh ?_;intro w6 HP6);have qd:=aa (CZ.self HP6.2 HP6.1);clear CZ HP6 f0 f1 f2 f3 f4 f5 f6 f7 f8 f9 f10 f11 f12;obtain⟨f0,f1,f2,f3,f4,f5,f6,f7,f8,f9,f10,f11,f12⟩:=qd.f3.nY;go_wp2_with fail;refine(HCH.out ⟨st.done,f.key::st.opn⟩ f _ w6 qd.rn (qd.rel dF BH.out) (show tC E.v.flags (f.key::st.opn)≤n by have:=QY HH.1 HH.2.1;have:=HH.2.2;omega)).mono ?_;rintro e7 w7 ⟨TH,Gm,Oz⟩;have GK:=aa (qd.wr' Oz Gm);have Wt:e7=_:=TH;subst Wt;clear qd Gm Oz TH f0 f1 f2 f3 f4 f5 f6 f7 f8 f9 f10 f11 f12;generalize hch:iB E.O n ⟨st.done,f.key::st.opn⟩ f=ch at*;obtain⟨⟨vr,⟨rk,ri,rn,rb⟩⟩,st7⟩:=ch;have HCQ:=ag hch hl;clear hch hl;obtain⟨e0,e1,e2,e3,e4,e5,e6,e7,e8,e9,fe⟩:=GK.d5.eU;have q1:=GK.d5.frozen 1;have q6:=GK.d5.frozen 6;have q7:=GK.d5.frozen 7;have q8:=GK.d5.frozen 8;have q9:=GK.d5.frozen 9;go_upto_region 6 with fail;have yw:=aa (GK.self (Yp w7 b5 1 6 7 8 9 (.int .i64 vr) (.int .i64 rk) (.int .i64 ri) (.string ⟨rn.toArray⟩) (.int .i64 rb)) (((((GK.d5.bC 1 (.int .i64 vr)).bC 6 (.int .i64 rk)).bC 7 (.int .i64 ri)).bC 8 (.string ⟨rn.toArray⟩)).bC 9 (.int .i64 rb)));simp only[List.setIfInBounds_toArray,List.set_cons_succ,List.set_cons_zero] at yw;clear GK e0 e1 e2 e3 e4 e5 e6 e7 e8 e9 fe q1 q6 q7 q8 q9;generalize ((((w7.setCell ⟨b5,1,none⟩ (.int .i64 vr)).setCell ⟨b5,6,none⟩ (.int .i64 rk)).setCell ⟨b5,7,none⟩ (.int .i64 ri)).setCell ⟨b5,8,none⟩ (.string ⟨rn.toArray⟩)).setCell ⟨b5,9,none⟩ (.int .i64 rb)=w8 at*;go_cut [46] from 36 to 45 (fun b wx=>Bx (∃bb:Bool,b= .bool bb∧(bb=true ↔ 1≤vr∧vr≤(n1:Int))∧wx=w8))
   case first=>
    have e1:w8.cell? ⟨b5,1,none⟩=some (.int .i64 vr):=yw.d5.cell 1;have f2:w8.cell? ⟨w.heap.size,2,none⟩=some (.slice A1 n1 k1):=yw.f3.cell 2;by_cases nG:1≤vr
    ·by_cases iG:vr≤(n1:Int)
     ·go_wp2_with fail;go_meet;case rel=>exact⟨⟨true,rfl,by simp[nG,iG],rfl⟩⟩
     ·exact z89
    ·exact z89
   case rest=>
    obtain⟨⟨bb,rfl,dA,Ol⟩⟩:=hcut;obtain rfl:=Ol;obtain⟨w8,rfl⟩:∃z,z=wc:=⟨_,rfl⟩;go_upto_if 46 with fail;go_cut [5] from 47 to 54 (fun p wx=>Bx (∃(x:VA) (A:Option Addr) (nn c:Nat),p= .pointer (some ⟨b5,0,none⟩)∧x=IU f vr∧Dc E w.heap.size w1.heap.size b5 #[.string ⟨f.key.toArray⟩,.int .i64 f.kind,.slice A1 n1 k1,.bool f.mI,.int .i64 f.off,.slice A2 n2 k2,.slice A3 n3 k3,.slice A4 n4 k4,.int .i64 f.dflt.var,.string ⟨f.dflt.kind.toArray⟩,.string ⟨f.dflt.iq.toArray⟩,.string ⟨f.dflt.aN.toArray⟩,.slice A5 n5 k5] #[.string ⟨f.key.toArray⟩,.int .i64 vr,.int .i64 x.kind,.int .i64 x.num,.string ⟨x.text.toArray⟩,.slice A nn c,.int .i64 rk,.int .i64 ri,.string ⟨rn.toArray⟩,.int .i64 rb,.int .i64 0] w st7 wx∧gG wx E.av [.int .i64 x.kind,.int .i64 x.num,.string ⟨x.text.toArray⟩,.slice A nn c] x))
    case first=>
     cases bb
     ·have hz:IU f vr=Lp:=by unfold IU;rw[if_neg];rw[GH.out];intro h;have:=dA.2 h;cases this
      go_wp2_with fail;go_meet;case rel=>exact⟨⟨Lp,none,0,0,rfl,hz.symm,yw.out,⟨_,rfl,Ls.nil _ _,⟨zL,zL⟩,⟨zL,zL⟩,z4V⟩⟩⟩
     ·have hv:=dA.1 rfl;have C8:=aa hv;obtain⟨j,hj⟩:∃j:Nat,vr=(j:Int)+1:=⟨(vr-1).toNat,z7⟩;have hjn:j<n1:=z7;have oO:j<f.vars.length:=by rw[GH.out];exact hjn
      have iK:=yw.rn;have HVQ:Hid (Ls 4 gG w8 E.av (.slice A1 n1 k1) f.vars):=HVL.keep aL fun k hk hl=>yw.wr.block k hl (yw.rn.ab k hk).2;obtain⟨ad,cs,had,aY,aI,hRv,hcell⟩:=HVQ.at_ oO;subst had;obtain⟨A8,n8,c8,rfl⟩:=jI hRv;have hval:IU f vr=f.vars[j]'oO:=by unfold IU;rw[if_pos (by rw[GH.out];exact hv),show(vr-1).toNat=j from z7,List.getElem?_eq_getElem oO];rfl
      obtain⟨x0,x1,x2,x3⟩:=mX hcell;have HX:=ag hval hRv;generalize f.vars[j]'oO=y at*;have e1:w8.cell? ⟨b5,1,none⟩=some (.int .i64 vr):=yw.d5.cell 1;have f2:w8.cell? ⟨w.heap.size,2,none⟩=some (.slice (some ad) n1 k1):=yw.f3.cell 2;obtain⟨-,-,e2,e3,e4,e5,-,-,-,-,-⟩:=yw.d5.eU;have q2:=yw.d5.frozen 2;have q3:=yw.d5.frozen 3;have q4:=yw.d5.frozen 4;have q5:=yw.d5.frozen 5;have Bf:IntKind.i64.wrap (vr-1)=(j:Int):=by rw[IntKind.wrap_i64];have:=xL.out;omega
      have Bu:(j:Int)<(n1:Int):=z7;clear dA hv hj hval hRv hcell aI iK;go_wp2_with fail;have HD5:=aa (yw.self (DF w8 b5 2 3 4 5 (.int .i64 y.kind) (.int .i64 y.num) (.string ⟨y.text.toArray⟩) (.slice A8 n8 c8)) ((((yw.d5.bC 2 (.int .i64 y.kind)).bC 3 (.int .i64 y.num)).bC 4 (.string ⟨y.text.toArray⟩)).bC 5 (.slice A8 n8 c8)));simp only[List.setIfInBounds_toArray,List.set_cons_succ,List.set_cons_zero] at HD5;have yc:E.base≤b5:=by have:=yw.hb;have:=yw.h3;have:=yw.h4;have:=yw.h5;omega
      have wX:=aa (DF w8 b5 2 3 4 5 (.int .i64 y.kind) (.int .i64 y.num) (.string ⟨y.text.toArray⟩) (.slice A8 n8 c8));have akD:∀k,E.av k→some k≠some b5:=fun k hk e=>by injection e with e;have:=(yw.rn.ab k hk).1;omega
      have HVR:=aa (aL.keep HX.2 fun k hk hl=>wX.block k hl (akD k hk));clear wX akD;generalize (((w8.setCell ⟨b5,2,none⟩ (.int .i64 y.kind)).setCell ⟨b5,3,none⟩ (.int .i64 y.num)).setCell ⟨b5,4,none⟩ (.string ⟨y.text.toArray⟩)).setCell ⟨b5,5,none⟩ (.slice A8 n8 c8)=w9 at*;have HXE:=aa HX.1.symm;clear HX;go_meet;case rel=>exact⟨⟨y,A8,n8,c8,rfl,HXE.out,HD5.out,HVR.out⟩⟩
    case rest=>clear yw dA;obtain⟨⟨x,A,nn,c,rfl,hxv,hD,Tg⟩⟩:=hcut;have HXV:=aa hxv;have HD:=aa hD;have Gw:=aa Tg;clear hD Tg hxv;go_upto_region 8 with fail;replace HD:=aa (HD.below (Below.refl _ _).drew);replace Gw:=aa (aL.keep Gw.out (w':=wc.drew) fun k _ _=>rfl);exact zaK (zt 0)
  |cases(zu:Zt 4);refine cmFa1 ?_;clear y1 g8;refine au ?_;refine⟨?_,?_⟩;rotate_left;next=>refine aZ [_] fun K hK=>?_;exact zbW (zt 1)
   exact zaP (zt 0)
  |cases(zu:Zt 5);refine cmGa2 ?_;refine cmFa2 ?_;refine cmGa2 ?_;refine cmFa2 ?_;refine cmFa1 ?_;clear g0 g1 g2 g3 g4 g5 g6 g7 g8 g9 y1;refine au ?_;refine⟨?_,?_⟩;rotate_left;next=>refine aZ [_] fun K hK=>?_;go_wp2_with(refine eD 192 rfl PV ?_;intro wz bH);have dh:=aa bH.1;have HNA:=aa HB.size;replace HB:=aa (bt HB.out bH.2.1);exact zcx (zt 2)
   exact zaA (zt 0)
  |cases(zu:Zt 6);refine cmGa2 ?_;refine cmFa2 ?_;refine cmFa1 ?_;clear y0 y1 y2 y3 y4 y5 y6 y7 y8 y9 UZ g8 g10;refine aW [_] fun K hK=>?_;go_wp2_with fail;have Ga:=HC.rn.su;have Wn:=HC.rn.ins;rw[xL.out] at Ga;rw[qD.out] at Wn;refine(abU E.s (gV E.v.cK E.s) lvl E.av E.av E.av (.slice A0 ns k0) (.slice AI nI kI) _ y.cond wq Ga Wn (HXX.out _ cZ.out).1 HC.rn.lu).mono ?_;rintro e6 w6 ⟨rfl,dE⟩;replace HC:=aa (HC.below dE);replace HY:=aa (HY.below' dE);have bL:=aa (bt cZ.out dE);have HHO:Hid (E.O.holds y.cond=iM E.s (gV E.v.cK E.s) lvl y.cond):=rfl;clear Ga Wn;generalize iM E.s (gV E.v.cK E.s) lvl y.cond=hb at*;go_wp2_with fail;refine ay.go hK ?_;clear hK K;clear dE;refine au ?_;cases hb
   ·have HX:Hid (kN E.O f f.rules 0=kN E.O f (f.rules.drop (k+1)) ((k+1:Nat):Int)):=aa (by
      rw[Xv.out,HDR.out,kN,HHO.out]
      simp)
    exact z6q
   ·have HX:Hid (iB E.O n st f=(ko E.O f.off y.serve 5 ((k:Int)+1) y.name,mg)):=aa (by
      rw[Uj.out,Xv.out,HDR.out,kN,HHO.out]
      simp)
    obtain⟨y0,y1,y2,y3,y4,y5,y6,y7,y8,y9,UZ⟩:=HY.eU;exact zcc (zt 1)
 |cases(zu:Zt 3);refine cmDa5 ?_;refine cmDa1 ?_;clear f0 f1 f2 f3 f4 f5 f6 f7 n0;refine aZ [_] fun K hK=>?_;go_wp2_with fail;refine(ajP B g nm wq HF.dw Lg.out).mono ?_;rintro e9 wz ⟨⟨_,rfl,lc,y,rfl,Mr⟩,bF,aO⟩;exact zbQ (zt 1)
 |cases(zu:Zt 4);refine cmEa2 ?_;refine cmDa1 ?_;refine cmDa1 ?_;refine aW [_] fun K hK=>?_;go_wp2_with fail;refine(abV Fb jb (.slice A0 ns jG) s _ x wq (HS.below bG HQ.1) (iZ.keep HX.out fun q _ hq=>HQ.1.block q hq) (HT.below HQ.1)).mono ?_;rintro e5 w5 ⟨hsv,eG⟩
  have HSV:Hid (∃(n b:Int) (ok:Bool),e5= .returned (.tuple #[.int .i64 n,.int .i64 b,.bool ok])∧((GX s x=none∧ok=false)∨(GX s x=some (n,b)∧ok=true))):=aa (by
    rcases hsv with⟨h1,h2⟩|⟨n,b,h1,h2⟩
    · exact⟨0,-1,false,h2,Or.inl ⟨h1,rfl⟩⟩
    · exact⟨n,b,true,h2,Or.inr ⟨h1,rfl⟩⟩)
  obtain⟨n,b,ok,rfl,qU⟩:=HSV.out;have Rq:=ag (bt HQ.1 eG) (ai (HQ.2.1.below' eG) (ai (HQ.2.2.2.1.below' eG) (HQ.2.2.2.2.1.below' eG)));clear s0 s1 s2 s3 s4 g8 hsv HSV eG HQ fO;go_wp2_with fail;refine ay.go hK ?_;clear hK K;refine cmBa7 ?_;refine au ?_;rcases qU with⟨hsn,rfl⟩|⟨hss,rfl⟩
  ·have HE:=aa (Ya (off:=f.off) (kind:=kind) (idx:=idx) (name:=name) hO hsn);clear hsn;go_upto_region 3 with fail;exact zcJ (zt 1)
  ·have HE:=aa (X9 (off:=f.off) (kind:=kind) (idx:=idx) (name:=name) hO hss);clear hss;have r3:=Rq.2.2.1.cell 3;have z3:=Rq.2.2.1.frozen 3;simp only[List.getElem?_toArray,List.getElem?_cons_zero,List.getElem?_cons_succ] at r3;go_upto_region 5 with fail;have mi:=Rq.2.2.1.bC 3 (.int .i64 b);exact zcs (zt 2)
 |cases(zu:Zt 5);refine cmDa4 ?_;clear f0 f1 f2 f3 f4 f5;refine aZ [_] fun K hK=>?_;go_wp2_with fail;refine(dH B g 200 wq HF.dw z7 z7).mono ?_;rintro e13 wz ⟨⟨_,rfl,F6,rfl,af2⟩,bF,aO⟩;exact zbQ (zt 2)
 |cases(zu:Zt 6);refine cmDa3 ?_;refine cmDa2 ?_;clear d0 d1 d2 d3 d4 d5 d6 d7;refine au ?_;refine⟨?_,?_⟩;rotate_left;next=>refine aZ [_] fun K hK=>?_;go_wp2_with(refine eD 46 rfl JP ?_;intro wz bH);have dh:=aa bH.1;have qF:=aa HQ.sz;replace HQ:=aa (HQ.below bH.2.1);exact zbL (zt 2)
  exact zcr (zt 1)
 |cases(zu:Zt 7);refine cmAa5 ?_;refine cmAa5 ?_;refine au ?_;clear Pk c0 c1 c2 f0 f1 f2;go_wp2_with fail;have yh:=ag lD.2.2.1 (ai lD.2.2.2.1 lD.2.2.2.2);obtain⟨c0,c1,c2⟩:=ah.c3 (show ah W2.drew g _ #[.slice A n c,.map (some b),.bool full] from lD.1);obtain⟨f0,f1,f2⟩:=ah.c3 (show ah W2.drew w.heap.size _ #[.int .i64 test,.int .i64 yes,.int .i64 no] from lD.2.1)
  have bW:Hid (Ow 3 ndR 242 (W2.alloc (.cells #[.int .i64 test,.int .i64 yes,.int .i64 no] 242)).drew base (fun _=>False) (.slice A n c) l):=aa (by
    have h:=(yh.1.alloc BQ (.cells #[.int .i64 test,.int .i64 yes,.int .i64 no] 242)).below BQ (Below.refl _ _).drew
    rwa [cO.out] at h)
  have aK:=aa (Sl.made (w:=W2) (av:=fun _=>True) [.int .i64 test,.int .i64 yes,.int .i64 no] 242 (size:=3) rfl trivial).drew;have bU:=((Below.refl W2.heap.size W2).alloc ae (.cells #[.int .i64 test,.int .i64 yes,.int .i64 no] 242)).drew;have aH:=aa bU;have Et:Hid (Below W2.drew.heap.size W2.drew (W2.alloc (.cells #[.int .i64 test,.int .i64 yes,.int .i64 no] 242)).drew):=aa ⟨bU.os,bU.tape,bU.output,bU.size,bU.block⟩;have HGA:=aa (lD.1.below' bU)
  have eB:Hid (base≤(W2.alloc (.cells #[.int .i64 test,.int .i64 yes,.int .i64 no] 242)).drew.heap.size∧g<(W2.alloc (.cells #[.int .i64 test,.int .i64 yes,.int .i64 no] 242)).drew.heap.size∧b<(W2.alloc (.cells #[.int .i64 test,.int .i64 yes,.int .i64 no] 242)).drew.heap.size∧w.heap.size≤(W2.alloc (.cells #[.int .i64 test,.int .i64 yes,.int .i64 no] 242)).drew.heap.size):=aa (by
    have h1:=bU.size
    have h2:=yh.2.2.size
    have h3:=Ei.2.2.2.2.size
    have h4:=pF.out
    have h5:=(lD.1.below' bU).lt
    have h6:=(yh.2.1.below bU).lt
    exact⟨z7,h5,h6,z7⟩)
  clear bU;refine dK [[.calm 0 false,.calm 1 false],[.calm 2 true,.calm 3 false,.calm 4 false,.calm 5 false],[.aB 6 (some 7) false],[.aB 7 none false],[.calm 8 true,.calm 9 false,.aB 10 none false]] (some 7) za za za za ?_;refine cmBa2 ?_;refine cmAa4 ?_;refine aZ [_] fun K hK=>?_;go_wp2_with fail;refine ay.go hK ⟨Et.out,?_⟩;clear hK K;refine aW [_] fun K hK=>?_;go_wp2_with(at_builtin;refine aU rfl (.tmp 86) (.tmp 88) _ rfl base 242 i0 _ 3 24 underlying162 hi hz hs dA rfl z7 BQ _ _ rfl bW.out [[.int .i64 test,.int .i64 yes,.int .i64 no]] [⟨test,yes,no⟩] _ _ rfl aK.out rfl zd zg (by intro k2 c2 x2 h1 h2;cases k2 with|zero=>(simp at h1 h2;subst h1;subst h2;rfl)|succ k2=>simp at h1) (by have:=cO.out;have:=tN.out;simp;omega) z7 eB.1 ?_;intro v2 w2 kV bK pz;have dm:=ag kV (ai bK pz);clear kV bK pz);refine ay.go hK ?_;clear hK K;have aci:Hid ((Value.slice A n c).ownBlock≠some g∧(Value.slice A n c).ownBlock≠some b):=aa (by rw[←cO.out];exact Rl.2.2);obtain⟨A2,ji,rfl,_,_⟩:=dm.1.open_;have lU:Hid (ah w2 g 165 #[.slice A n c,.map (some b),.bool full]):=aa (HGA.grown dm.2.1 (fun e=>aci.1 e.symm));have Lh:Hid (Mv prog 242 w2 b (uV m (.agg #[.int .i64 test,.int .i64 yes,.int .i64 no]) (some (.int .i64 (n:Int))))):=aa ((yh.2.1.below aH.out).grown dm.2.1 (fun e=>aci.2 e.symm));have bX:(l++[(⟨test,yes,no⟩:ND)]).length=n+1:=zr;rw[bX] at dm⊢;clear c0 c1 c2 f0 f1 f2 bX;have f0:=lU.frozen 0;obtain⟨c0,c1,c2⟩:=lU.c3;refine cmAa3 ?_;refine au ?_;clear c0 c1 c2 f0;have vG:Hid (ah (w2.setCell ⟨g,0,none⟩ (.slice A2 (n+1) ji)) g 165 #[.slice A2 (n+1) ji,.map (some b),.bool full]):=aa (by simpa using lU.bC 0 (.slice A2 (n+1) ji));have wX:Hid (w2.grownBy (w2.setCell ⟨g,0,none⟩ (.slice A2 (n+1) ji)) (some g)):=aa (aR fD (.inl rfl) _);generalize w2.setCell ⟨g,0,none⟩ (.slice A2 (n+1) ji)=w5 at vG wX⊢;obtain⟨c0,c1,c2⟩:=vG.c3;go_wp2_with fail;go_ret
  have hng:(Value.slice A2 (n+1) ji).ownBlock≠some g:=by
   intro e;rcases dm.2.2 with h|h
   ·exact aci.1 (h.symm.trans e)
   ·rw[e] at h;injection h with h;have:=eB.2.1;omega
  have Jh:(Value.slice A2 (n+1) ji).ownBlock≠some b:=by
   intro e;rcases dm.2.2 with h|h
   ·exact aci.2 (h.symm.trans e)
   ·rw[e] at h;injection h with h;have:=eB.2.2.1;omega
  have hog:=(Rl.2.1 g).2 (.inl rfl);have hob:=(Rl.2.1 b).2 (.inr (.inl rfl));have bX:(l++[(⟨test,yes,no⟩:ND)]).length=n+1:=zr;have hyv:=HY.of HP.1;have KZ:=HN.of HP.2;have h23:=H23.out;refine⟨(n:Int),fun k=>k=g∨k=b∨(Value.slice A2 (n+1) ji).ownBlock=some k,[⟨test,yes,no⟩],?_,⟨⟨A2,ji,full,_,?_,?_,Lh.grown wX.out z3O,?_,fun k=>?_,?_,?_⟩,HS.gb,HS.gl,HS.bl,HS.ok.push (by show 0≤test;omega) (by show test≤1000;omega) hyv KZ (by show test<kC l yes;omega) (by show test<kC l no;omega),by rw[bX];omega⟩,.inr (.inr (.inr ⟨n,rfl,by rw[bX];omega⟩)),?_⟩
  ·first
     | rfl
     | (show Ending.returned (Value.int IntKind.i64 ((n:Int)+1-1))=_
        rw[Int.add_sub_cancel])
  ·rw[bX];exact vG.out
  ·rw[bX];exact dm.1.grown BQ wX.out (fun k hk=>by injection hk with hk;subst hk;exact⟨fun h=>h,hng⟩)
  ·intro k v lN;rw[bX];by_cases hq:k= .agg #[.int .i64 test,.int .i64 yes,.int .i64 no]
   ·subst hq;rw[jX] at lN;injection lN with lN;exact⟨n,lN.symm,z7⟩
   ·rw[kW hq] at lN;obtain⟨j,h1,h2⟩:=Rl.1 _ _ lN;exact⟨j,h1,zO⟩
  ·rw[bX]
  ·rw[bX];exact hng
  ·rw[bX];exact Jh
  ·have e1:Wr own own w W1:=Wr.of_below own Ei.2.2.2.2;have e2:Wr own own W1 W2:=Wr.ac5 yh.2.2 (fun k hk=>by injection hk with hk;subst hk;exact hob);have e3:Wr own own W2 _:=Wr.of_below own aH.out;have e4:Wr own own _ w2:=Wr.ac5 dm.2.1 (fun k hk=>(Rl.2.1 k).2 (.inr (.inr (by rw[cO.out];exact hk))));have e5:Wr own own w2 w5:=Wr.Az wX.out hog;refine((((e1.trans e2).trans e3).trans e4).trans e5).now fun k hk=>?_;rcases hk with rfl|rfl|hk
   ·exact .inl hog
   ·exact .inl hob
   ·rcases dm.2.2 with h|h
    ·exact .inl ((Rl.2.1 k).2 (.inr (.inr (by rw[cO.out];exact h.symm.trans hk))))
    ·rw[hk] at h;injection h with h;exact .inr (by have:=eB.2.2.2;omega)
 |cases(zu:Zt 8)
  first
  |cases(zu:Zt 0);refine cmAa4 ?_;refine cmAa1 ?_;refine cmAa2 ?_;refine cmBa1 ?_;refine au ?_
   first
   |cases(zu:Zt 0);have e1:bits .xor .u64 t.a m=iX t.a m:=rfl;rw[e1];clear e1;have jF:=ah.put ⟨bT,World.grownBy.refl w2 (some g)⟩ (i:=0) (.int .u64 (iX t.a m)) (cs':= #[.int .u64 (iX t.a m),.int .u64 t.b,.int .u64 t.c,.int .u64 t.d]) zd;go_wp2_with fail;go_end0;rw[HW.out];have hG:w.grownBy w1 (some g):=fT.2;have ar4:w1.grownBy w2 (some g):=⟨Eb.os,Eb.tape,Eb.output,Eb.size,Eb.block⟩;have hGf:=II (II hG ar4) jF.2;exact⟨rfl,jF.1,⟨hGf.os,hGf.tape,hGf.output,hGf.size,hGf.block⟩⟩
   |cases(zu:Zt 1);have e1:bits .xor .u64 d m=iX d m:=rfl;rw[e1];clear e1;have fT:=ah.put ⟨hk,World.grownBy.refl w (some g)⟩ (i:=3) (.int .u64 (iX d m)) (cs':= #[.int .u64 a,.int .u64 b,.int .u64 c,.int .u64 (iX d m)]) zd;clear c0 c1 c2 c3 f0 f1 f2 f3;go_wp2_with fail;generalize w.setCell ⟨g,3,none⟩ (.int .u64 (iX d m))=w1 at*;refine(OD g 2 z7 ⟨a,b,c,iX d m⟩ _ (by exact fT.1)).mono ?_;rintro e w2 ⟨rfl,bT,Eb⟩;obtain⟨t,ht⟩:∃t,qK 2 ⟨a,b,c,iX d m⟩=t:=⟨_,rfl⟩;rw[ht] at bT;have HW:=aa (show yV m ⟨a,b,c,d⟩=⟨iX t.a m,t.b,t.c,t.d⟩ by simp only[yV];rw[ht]);clear ht;obtain⟨⟨c0,c1,c2,c3⟩,⟨f0,f1,f2,f3⟩⟩:=ah.four bT;exact zaU (zt 0)
  |cases(zu:Zt 1);refine cmAa4 ?_;refine cmAa3 ?_;refine cmAa1 ?_;refine cmAa2 ?_;refine cmBa1 ?_;refine au ?_;go_wp2_with fail;have e1:IntKind.u64.wrap (a+b)=EE a b:=rfl;rw[e1];clear e1;obtain⟨a1,pE⟩:∃a1,EE a b=a1:=⟨_,rfl⟩;rw[pE];have Ha1:=aa pE;clear pE;have tq:=ah.put ma (i:=0) (.int .u64 a1) (cs':= #[.int .u64 a1,.int .u64 b,.int .u64 c,.int .u64 d]) zd;clear ma c0 c1 c2 c3 f0 f1 f2 f3;generalize wr.setCell ⟨g,0,none⟩ (.int .u64 a1)=x1 at*;have ma:=tq;clear tq;obtain⟨⟨c0,c1,c2,c3⟩,⟨f0,f1,f2,f3⟩⟩:=ah.four ma.1;refine aJ (.path [[.calm 0 false,.calm 1 false],[.calm 2 true,.calm 3 false,.calm 4 false,.calm 6 false],[.calm 7 true,.calm 8 false,.calm 9 false],[.calm 11 true],[.aB 5 (some 13) false],[.calm 10 true,.calm 12 false],[.aB 13 none false]]) (some 13) za za za ?_;show aA _ _ _ _ _ _ _ _ _;refine cmBa2 ?_;refine cmAa4 ?_;refine cmAa3 ?_;refine cmAa1 ?_;refine aZ [_] fun K hK=>?_;go_wp2_with fail;refine(FQ b 13 z2H _).mono ?_;rintro e y ⟨rfl,hy⟩;rw[hy];clear hy y;go_wp2_with fail;refine ay.go hK ⟨(by have h:=Below.refl x1.heap.size x1;exact⟨h.os,h.tape,h.output,h.size,h.block⟩),?_⟩;clear hK K;refine cmAa2 ?_;refine cmBa1 ?_;refine au ?_;go_wp2_with fail;have e2:bits .xor .u64 (sH b 13) a1=iX (sH b 13) a1:=rfl;rw[e2];clear e2;obtain⟨b2,bQ⟩:∃b2,iX (sH b 13) a1=b2:=⟨_,rfl⟩;rw[bQ];have Hb2:=aa bQ;clear bQ;have tq:=ah.put ma (i:=1) (.int .u64 b2) (cs':= #[.int .u64 a1,.int .u64 b2,.int .u64 c,.int .u64 d]) zd;clear ma c0 c1 c2 c3 f0 f1 f2 f3;generalize x1.setCell ⟨g,1,none⟩ (.int .u64 b2)=x2 at*;have ma:=tq;clear tq;obtain⟨⟨c0,c1,c2,c3⟩,⟨f0,f1,f2,f3⟩⟩:=ah.four ma.1;refine aJ (.path [[.calm 0 false,.calm 1 false],[.calm 2 true,.calm 3 false,.calm 4 false],[.calm 6 true],[.aB 5 none false],[.calm 7 false],[.aB 8 none false]]) none za za za ?_;show aA _ _ _ _ _ _ _ _ _;refine cmBa2 ?_;refine cmAa3 ?_;refine cmAa1 ?_;refine aW [_] fun K hK=>?_;go_wp2_with fail;refine(FQ a1 32 z2H _).mono ?_;rintro e y ⟨rfl,hy⟩;rw[hy];clear hy y;go_wp2_with fail;refine ay.go hK ?_;clear hK K;refine cmBa1 ?_;refine cmBa1 ?_;refine au ?_;go_wp2_with fail;obtain⟨a3,Ea⟩:∃a3,sH a1 32=a3:=⟨_,rfl⟩;rw[Ea];have Ha3:=aa Ea;clear Ea;have tq:=ah.put ma (i:=0) (.int .u64 a3) (cs':= #[.int .u64 a3,.int .u64 b2,.int .u64 c,.int .u64 d]) zd;clear ma c0 c1 c2 c3 f0 f1 f2 f3;generalize x2.setCell ⟨g,0,none⟩ (.int .u64 a3)=x3 at*;have ma:=tq;clear tq;obtain⟨⟨c0,c1,c2,c3⟩,⟨f0,f1,f2,f3⟩⟩:=ah.four ma.1;refine aJ (.path [[.calm 0 false],[.calm 1 true,.calm 2 false,.calm 3 false,.calm 4 false],[.calm 5 true,.calm 6 false,.calm 7 false],[.calm 8 true],[.calm 9 true,.calm 10 false],[.aB 11 none false]]) none za za za ?_;show aA _ _ _ _ _ _ _ _ _;refine bP rfl rfl (fun K hK=>?_);simp only[List.filterMap_cons,List.filterMap_nil,dS,List.getElem?_toArray,List.getElem?_cons_zero];show wpList _ _ _ [_] _ _;go_wp2_with fail;refine ay.go hK ?_;clear hK K;refine cmAa4 ?_;refine cmAa3 ?_;refine cmAa1 ?_;refine cmAa2 ?_;refine cmBa1 ?_;refine au ?_;go_wp2_with fail;have e4:IntKind.u64.wrap (c+d)=EE c d:=rfl;rw[e4];clear e4;obtain⟨c4,Js⟩:∃c4,EE c d=c4:=⟨_,rfl⟩;rw[Js];have Hc4:=aa Js;clear Js;have tq:=ah.put ma (i:=2) (.int .u64 c4) (cs':= #[.int .u64 a3,.int .u64 b2,.int .u64 c4,.int .u64 d]) zd;clear ma c0 c1 c2 c3 f0 f1 f2 f3;generalize x3.setCell ⟨g,2,none⟩ (.int .u64 c4)=x4 at*;have ma:=tq;clear tq;obtain⟨⟨c0,c1,c2,c3⟩,⟨f0,f1,f2,f3⟩⟩:=ah.four ma.1;refine aJ (.path [[.calm 0 false,.calm 1 false],[.calm 2 true,.calm 3 false,.calm 4 false,.calm 6 false],[.calm 7 true,.calm 8 false,.calm 9 false],[.calm 11 true],[.aB 5 (some 13) false],[.calm 10 true,.calm 12 false],[.aB 13 none false]]) (some 13) za za za ?_;show aA _ _ _ _ _ _ _ _ _;refine cmBa2 ?_;refine cmAa4 ?_;refine cmAa3 ?_;refine cmAa1 ?_;refine aZ [_] fun K hK=>?_;go_wp2_with fail;refine(FQ d 16 z2H _).mono ?_;rintro e y ⟨rfl,hy⟩;rw[hy];clear hy y;go_wp2_with fail;refine ay.go hK ⟨(by have h:=Below.refl x4.heap.size x4;exact⟨h.os,h.tape,h.output,h.size,h.block⟩),?_⟩;clear hK K;refine cmAa2 ?_;refine cmBa1 ?_;refine au ?_;go_wp2_with fail;have e5:bits .xor .u64 (sH d 16) c4=iX (sH d 16) c4:=rfl;rw[e5];clear e5;obtain⟨d5,hd5⟩:∃d5,iX (sH d 16) c4=d5:=⟨_,rfl⟩;rw[hd5];have Hd5:=aa hd5;clear hd5;have tq:=ah.put ma (i:=3) (.int .u64 d5) (cs':= #[.int .u64 a3,.int .u64 b2,.int .u64 c4,.int .u64 d5]) zd;clear ma c0 c1 c2 c3 f0 f1 f2 f3;generalize x4.setCell ⟨g,3,none⟩ (.int .u64 d5)=x5 at*;have ma:=tq;clear tq;obtain⟨⟨c0,c1,c2,c3⟩,⟨f0,f1,f2,f3⟩⟩:=ah.four ma.1;refine aJ (.path [[.calm 0 false],[.calm 1 true,.calm 2 false,.calm 3 false,.calm 4 false],[.calm 5 true,.calm 6 false,.calm 7 false],[.calm 8 true],[.calm 9 true,.calm 10 false],[.aB 11 none false]]) none za za za ?_;show aA _ _ _ _ _ _ _ _ _;refine bP rfl rfl (fun K hK=>?_);simp only[List.filterMap_cons,List.filterMap_nil,dS,List.getElem?_toArray,List.getElem?_cons_zero];show wpList _ _ _ [_] _ _;go_wp2_with fail;refine ay.go hK ?_;clear hK K;refine cmAa4 ?_;refine cmAa3 ?_;refine cmAa1 ?_;refine cmAa2 ?_;refine cmBa1 ?_;refine au ?_;go_wp2_with fail;have e6:IntKind.u64.wrap (a3+d5)=EE a3 d5:=rfl;rw[e6];clear e6;obtain⟨a6,Gj⟩:∃a6,EE a3 d5=a6:=⟨_,rfl⟩;rw[Gj];have Ha6:=aa Gj;clear Gj;have tq:=ah.put ma (i:=0) (.int .u64 a6) (cs':= #[.int .u64 a6,.int .u64 b2,.int .u64 c4,.int .u64 d5]) zd;clear ma c0 c1 c2 c3 f0 f1 f2 f3;generalize x5.setCell ⟨g,0,none⟩ (.int .u64 a6)=x6 at*;have ma:=tq;clear tq;obtain⟨⟨c0,c1,c2,c3⟩,⟨f0,f1,f2,f3⟩⟩:=ah.four ma.1;refine aJ (.path [[.calm 0 false,.calm 1 false],[.calm 2 true,.calm 3 false,.calm 4 false,.calm 6 false],[.calm 7 true,.calm 8 false,.calm 9 false],[.calm 11 true],[.aB 5 (some 13) false],[.calm 10 true,.calm 12 false],[.aB 13 none false]]) (some 13) za za za ?_;show aA _ _ _ _ _ _ _ _ _;refine cmBa2 ?_;refine cmAa4 ?_;refine cmAa3 ?_;refine cmAa1 ?_;refine aZ [_] fun K hK=>?_;go_wp2_with fail;refine(FQ d5 21 z2H _).mono ?_;rintro e y ⟨rfl,hy⟩;rw[hy];clear hy y;go_wp2_with fail;refine ay.go hK ⟨(by have h:=Below.refl x6.heap.size x6;exact⟨h.os,h.tape,h.output,h.size,h.block⟩),?_⟩;clear hK K;refine cmAa2 ?_;refine cmBa1 ?_;refine au ?_;go_wp2_with fail;have e7:bits .xor .u64 (sH d5 21) a6=iX (sH d5 21) a6:=rfl;rw[e7];clear e7;obtain⟨d7,hd7⟩:∃d7,iX (sH d5 21) a6=d7:=⟨_,rfl⟩;rw[hd7];have Hd7:=aa hd7;clear hd7;have tq:=ah.put ma (i:=3) (.int .u64 d7) (cs':= #[.int .u64 a6,.int .u64 b2,.int .u64 c4,.int .u64 d7]) zd;clear ma c0 c1 c2 c3 f0 f1 f2 f3;generalize x6.setCell ⟨g,3,none⟩ (.int .u64 d7)=x7 at*;have ma:=tq;clear tq;obtain⟨⟨c0,c1,c2,c3⟩,⟨f0,f1,f2,f3⟩⟩:=ah.four ma.1;refine aJ (.path [[.calm 0 false],[.calm 1 true,.calm 2 false,.calm 3 false,.calm 4 false],[.calm 5 true,.calm 6 false,.calm 7 false],[.calm 8 true],[.calm 9 true,.calm 10 false],[.aB 11 none false]]) none za za za ?_;show aA _ _ _ _ _ _ _ _ _;refine bP rfl rfl (fun K hK=>?_);simp only[List.filterMap_cons,List.filterMap_nil,dS,List.getElem?_toArray,List.getElem?_cons_zero];show wpList _ _ _ [_] _ _;go_wp2_with fail;refine ay.go hK ?_;clear hK K;refine cmAa4 ?_;refine cmAa3 ?_;refine cmAa1 ?_;refine cmAa2 ?_;refine cmBa1 ?_;refine au ?_;go_wp2_with fail;have e8:IntKind.u64.wrap (c4+b2)=EE c4 b2:=rfl;rw[e8];clear e8;obtain⟨c8,Jr⟩:∃c8,EE c4 b2=c8:=⟨_,rfl⟩;rw[Jr];have Hc8:=aa Jr;clear Jr;have tq:=ah.put ma (i:=2) (.int .u64 c8) (cs':= #[.int .u64 a6,.int .u64 b2,.int .u64 c8,.int .u64 d7]) zd;clear ma c0 c1 c2 c3 f0 f1 f2 f3;generalize x7.setCell ⟨g,2,none⟩ (.int .u64 c8)=x8 at*;have ma:=tq;clear tq;obtain⟨⟨c0,c1,c2,c3⟩,⟨f0,f1,f2,f3⟩⟩:=ah.four ma.1;refine aJ (.path [[.calm 0 false,.calm 1 false],[.calm 2 true,.calm 3 false,.calm 4 false,.calm 6 false],[.calm 7 true,.calm 8 false,.calm 9 false],[.calm 11 true],[.aB 5 (some 13) false],[.calm 10 true,.calm 12 false],[.aB 13 none false]]) (some 13) za za za ?_;show aA _ _ _ _ _ _ _ _ _;refine cmBa2 ?_;refine cmAa4 ?_;refine cmAa3 ?_;refine cmAa1 ?_;refine aZ [_] fun K hK=>?_;go_wp2_with fail;refine(FQ b2 17 z2H _).mono ?_;rintro e y ⟨rfl,hy⟩;rw[hy];clear hy y;go_wp2_with fail;refine ay.go hK ⟨(by have h:=Below.refl x8.heap.size x8;exact⟨h.os,h.tape,h.output,h.size,h.block⟩),?_⟩;clear hK K;refine cmAa2 ?_;refine cmBa1 ?_;refine au ?_;go_wp2_with fail;have e9:bits .xor .u64 (sH b2 17) c8=iX (sH b2 17) c8:=rfl;rw[e9];clear e9;obtain⟨b9,eu⟩:∃b9,iX (sH b2 17) c8=b9:=⟨_,rfl⟩;rw[eu];have Hb9:=aa eu;clear eu;have tq:=ah.put ma (i:=1) (.int .u64 b9) (cs':= #[.int .u64 a6,.int .u64 b9,.int .u64 c8,.int .u64 d7]) zd;clear ma c0 c1 c2 c3 f0 f1 f2 f3;generalize x8.setCell ⟨g,1,none⟩ (.int .u64 b9)=x9 at*;have ma:=tq;clear tq;obtain⟨⟨c0,c1,c2,c3⟩,⟨f0,f1,f2,f3⟩⟩:=ah.four ma.1;refine aJ (.path [[.calm 0 false,.calm 1 false],[.calm 2 true,.calm 3 false,.calm 4 false],[.calm 6 true],[.aB 5 none false],[.calm 7 false],[.aB 8 none false]]) none za za za ?_;show aA _ _ _ _ _ _ _ _ _;refine cmBa2 ?_;refine cmAa3 ?_;refine cmAa1 ?_;refine aW [_] fun K hK=>?_;go_wp2_with fail;refine(FQ c8 32 z2H _).mono ?_;rintro e y ⟨rfl,hy⟩;rw[hy];clear hy y;go_wp2_with fail;refine ay.go hK ?_;clear hK K;refine cmBa1 ?_;refine cmBa1 ?_;refine au ?_;go_wp2_with fail;obtain⟨fB,agq⟩:∃fB,sH c8 32=fB:=⟨_,rfl⟩;rw[agq];have asn:=aa agq;clear agq;have tq:=ah.put ma (i:=2) (.int .u64 fB) (cs':= #[.int .u64 a6,.int .u64 b9,.int .u64 fB,.int .u64 d7]) zd;clear ma c0 c1 c2 c3 f0 f1 f2 f3;generalize x9.setCell ⟨g,2,none⟩ (.int .u64 fB)=qQ at*;have ma:=tq;clear tq;have arE:qK (k+1) s=⟨a6,b9,fB,d7⟩:=by rw[HS.out];simp only[afv];rw[Ha1.out,Hb2.out,Ha3.out,Hc4.out,Hd5.out,Ha6.out,Hd7.out,Hc8.out,Hb9.out,asn.out]
   go_roundw
   case rel=>
    refine⟨k+1,zd,z7,?_,?_⟩
    ·rw[arE];exact ma.1
    ·have Eb:w.grownBy qQ (some g):=II hG ma.2;exact⟨Eb.os,Eb.tape,Eb.output,Eb.size,Eb.block⟩
   case measure=>exact z9L
  |cases(zu:Zt 2);refine cmDa3 ?_;refine cmDa1 ?_
   first
   |cases(zu:Zt 0);clear f0 f1 f2 f3 f4 f5 f6 f7 f8 f9 f10 f11 f12 fO;refine aZ [_] fun K hK=>?_;go_wp2_with fail;refine(ry B g kd wq HF.dw Ru.out).mono ?_;rintro e3 wz ⟨⟨_,rfl,cv,xv,rfl,hx⟩,bF,aO⟩;exact zbQ (zt 0)
   |cases(zu:Zt 1);clear d0 d1 d2 f0 f1 f2 f3 f4 fO;refine aZ [_] fun K hK=>?_;go_wp2_with fail;refine(ry B g _ wq HEd.dw Fp.out).mono ?_;rintro e3 w3 ⟨⟨_,rfl,cv,x,rfl,hx⟩,bF,aO⟩;have hN:=HN.out;have p8:=aa (HOd.grown aL aO (fun q hq=>by injection hq with hq;subst hq;exact⟨z3P,fun e=>by have:=(HOd.lt g e).1;have:=hN.a;have:=hN.b;have:=hN.c;omega⟩));have fK:=aa (HEd.next hN bF aO);have HX:=aa hx;obtain⟨A9,n9,c9,rfl⟩:=sM hx;clear hx bF hN;exact zcw (zt 0)
  |cases(zu:Zt 3);refine cmDa5 ?_;refine cmDa6 ?_;refine cmDa1 ?_;clear e0 e1 e2 f0 f1 f2 q2;refine aZ [_] fun K hK=>?_;go_wp2_with fail;refine(ry B g _ wq gZ.dw wW.2.2).mono ?_;rintro e3 w3 ⟨⟨_,rfl,cv,x,rfl,hx⟩,bF,aO⟩;have fK:=aa (gZ.next HN.1 HN.2 KC.1 KC.2 bF aO);have HX:=aa hx;obtain⟨lv,rfl,hl,_⟩:=hx;obtain⟨A9,c9,rfl,_,_⟩:=hl.open_;generalize x.list.length=n9 at HX;clear hl bF;exact zcw (zt 1)
 |cases(zu:Zt 9);refine cmDa2 ?_
  first
  |cases(zu:Zt 0);refine cmDa4 ?_;refine cmDa1 ?_;clear f0 f1 f2 f3 f4 f5 f6 f7 n0;refine aZ [_] fun K hK=>?_;go_wp2_with fail;have lL:=sw.out _ (Fs.out _ HF.p).1.1;have o9:=aem (vl:= .slice none 0 0) (vx:= .slice none 0 0) (Ls.cut fJ z7 zj (bI.out _ lL.1).2) (Ls.cut dG z7 zj lL.2) (HF.alQ dF z7 zO) (Ls.nil _ _ (R:=wB)) (Ls.nil _ _ (R:=uz)) CP.1 CP.2.1 CP.2.2;refine(anu B g _ ⟨sl,hk,hl,ja,yC,l,[],[]⟩ nm wq HF.dw o9 Lg.1 (fun f hf=>⟨(ym.2.2 f hf).v1,(ym.2.2 f hf).v4⟩) (by have:=cO.out;show l.length≤8;omega) z3w).mono ?_;rintro e9 wz ⟨⟨_,rfl,fc,f,rfl,nW,Ia,qU⟩,bF,aO⟩;have og:=aa HF.mr;have uP:=aa (fun q (hq:(Value.slice A l.length c).ownBlock=some q)=>(HF.ow.lt q hq).2);replace HF:=aa (HF.next dF bF aO);have HX:=aa nW;have Es:=ag Ia qU;obtain⟨-,a1,A1,c1,a3,a4,A2,n2,c2,A3,n3,c3,A4,n4,c4,b0,b1,b2,b3,A5,n5,c5,rfl⟩:=Kv nW;clear bF nW Ia qU lL o9;generalize f.vars.length=n1 at HX⊢;go_wp2_with fail;refine ay.go hK ⟨aO,?_⟩;clear hK K;clear aO;have bW:=aa (HF.ow.alloc dF (.cells #[.string ⟨f.key.toArray⟩,.int .i64 a1,.slice A1 n1 c1,.bool a3,.int .i64 a4,.slice A2 n2 c2,.slice A3 n3 c3,.slice A4 n4 c4,.int .i64 b0,.string b1,.string b2,.string b3,.slice A5 n5 c5] 46));have aK:=aa (Sl.made (w:=wz) (av:=fun _=>True) [.string ⟨f.key.toArray⟩,.int .i64 a1,.slice A1 n1 c1,.bool a3,.int .i64 a4,.slice A2 n2 c2,.slice A3 n3 c3,.slice A4 n4 c4,.int .i64 b0,.string b1,.string b2,.string b3,.slice A5 n5 c5] 46 (size:=13) rfl trivial);have aH:=aa ((Below.refl (wz).heap.size wz).alloc ae (.cells #[.string ⟨f.key.toArray⟩,.int .i64 a1,.slice A1 n1 c1,.bool a3,.int .i64 a4,.slice A2 n2 c2,.slice A3 n3 c3,.slice A4 n4 c4,.int .i64 b0,.string b1,.string b2,.string b3,.slice A5 n5 c5] 46));refine cmCd1 ?_;refine aW [_] fun K hK=>?_;go_wp2_with(at_builtin;go_loud(refine aU rfl (.tmp 34) (.tmp 42) _ rfl m6 46 i0 _ 13 216 underlying28 fu hz eZ dA rfl z7 dF (.slice A l.length c) l rfl bW.out [[.string ⟨f.key.toArray⟩,.int .i64 a1,.slice A1 n1 c1,.bool a3,.int .i64 a4,.slice A2 n2 c2,.slice A3 n3 c3,.slice A4 n4 c4,.int .i64 b0,.string b1,.string b2,.string b3,.slice A5 n5 c5]] [f] _ _ rfl aK.out rfl zd (by intro c hc u hu;simp at hc;subst hc;simp at hu;rcases hu with rfl|rfl|rfl|rfl|rfl|rfl|rfl|rfl|rfl|rfl|rfl|rfl|rfl<;>rfl) (by intro k2 c2 x2 h1 h2;cases k2 with|zero=>(simp only[List.getElem?_cons_zero,Option.some.injEq] at h1 h2;subst h1;subst h2;exact HF.elem dF og.out uP.out HX.out aH.out)|succ k2=>simp at h1) zr z7 (af HF.mr aH.size) ?_);intro v8 w9 bN aM _;have aF:=ag bN aM;clear bN aM);obtain⟨A8,c8,rfl,_,_⟩:=aF.1.open_;have iN:=aa (HF.push dF aH.out aF.1 aF.2);clear bW aK aH aF HF;generalize hL:(l++[f])=l9 at*;have lM:l9.length=l.length+1:=z1k;refine ay.go hK ?_;clear hK K;obtain⟨f0,f1,f2,f3,f4,f5,f6,f7⟩:=iN.b.c8;have q9:=iN.b.frozen 5;refine cmBa1 ?_;refine cmBa1 ?_;refine au ?_;clear q9 f0 f1 f2 f3 f4 f5 f6 f7;have HF:=aa (iN.set dF 5 (.slice A8 l9.length c8));clear iN;rw[lM] at HF;go_wp2_with fail;go_roundw;case rel=>exact⟨⟨k+1,_,l9,zd,z7,z4x,by rw[←hL,List.map_append,ym.2.1,List.take_add_one,Lg.2,List.map_singleton,Es.1];rfl,fun f2 QP=>by rw[←hL] at QP;rcases List.mem_append.1 QP with h|h;exact ym.2.2 f2 h;rw[List.mem_singleton.1 h];exact Es.2,HF.out⟩⟩
   case measure=>exact z9L
  |cases(zu:Zt 1);refine cmDa4 ?_;refine cmDa2 ?_;clear f0 f1 f2 f3 f4 f5 f6 f7 n0;refine aZ [_] fun K hK=>?_;go_wp2_with fail;have o9:=Sj HN.out CP.out bI.out sw.out Fs.out sj.out Fq.out HF.out zO;refine(Yt B g _ ⟨sl,hk,hl,ja,yC,fl,ll,l⟩ nm now wq HF.dw o9 Lg.out PM.out (by have:=HPO.out;have:=Ro.out;have:=Es.1;have:=Fv.out;show 1≤fl.length∧fl.length≤8;omega) (by have:=HPO.out;have:=HLO.out;have:=Rt.out;show 1≤ll.length∧ll.length≤8;omega) (fun f hf=>⟨(Es.2.2 f hf).v1,(Es.2.2 f hf).v4⟩) z3w).mono ?_;rintro e9 wz ⟨⟨_,rfl,xc,y,rfl,Ho,hyc,hyo⟩,bF,aO⟩;have og:=aa HF.mr;have uP:=aa (fun q (hq:(Value.slice A l.length c).ownBlock=some q)=>(HF.ow.lt q hq).2);replace HF:=aa (HF.next fC bF aO);have HX:=aa Ho;have HYO:=ag hyc hyo;obtain⟨X1,m1,d1,X2,m2,d2,op,kd,nm3,X3,m3,d3,X4,m4,d4,rfl,_⟩:=Db Ho;clear bF Ho hyc hyo o9;go_wp2_with fail;refine ay.go hK ⟨aO,?_⟩;clear hK K;clear aO;have bW:=aa (HF.ow.alloc fC (.cells #[.string ⟨y.key.toArray⟩,.string ⟨y.layer.toArray⟩,.string ⟨y.flag.toArray⟩,.string ⟨y.aN.toArray⟩,.int .i64 y.status,.slice X1 m1 d1,.slice X2 m2 d2,.int .i64 op,.string ⟨kd.toArray⟩,.string ⟨nm3.toArray⟩,.slice X3 m3 d3,.slice X4 m4 d4] 92));have aK:=aa (Sl.made (w:=wz) (av:=fun _=>True) [.string ⟨y.key.toArray⟩,.string ⟨y.layer.toArray⟩,.string ⟨y.flag.toArray⟩,.string ⟨y.aN.toArray⟩,.int .i64 y.status,.slice X1 m1 d1,.slice X2 m2 d2,.int .i64 op,.string ⟨kd.toArray⟩,.string ⟨nm3.toArray⟩,.slice X3 m3 d3,.slice X4 m4 d4] 92 (size:=12) rfl trivial);have aH:=aa ((Below.refl (wz).heap.size wz).alloc ae (.cells #[.string ⟨y.key.toArray⟩,.string ⟨y.layer.toArray⟩,.string ⟨y.flag.toArray⟩,.string ⟨y.aN.toArray⟩,.int .i64 y.status,.slice X1 m1 d1,.slice X2 m2 d2,.int .i64 op,.string ⟨kd.toArray⟩,.string ⟨nm3.toArray⟩,.slice X3 m3 d3,.slice X4 m4 d4] 92));refine cmCd1 ?_;refine aW [_] fun K hK=>?_;go_wp2_with(at_builtin;go_loud(refine aU rfl (.tmp 89) (.tmp 98) _ rfl m8 92 i0 _ 12 208 underlying30 fu hz eZ dA rfl z7 fC (.slice A l.length c) l rfl bW.out [[.string ⟨y.key.toArray⟩,.string ⟨y.layer.toArray⟩,.string ⟨y.flag.toArray⟩,.string ⟨y.aN.toArray⟩,.int .i64 y.status,.slice X1 m1 d1,.slice X2 m2 d2,.int .i64 op,.string ⟨kd.toArray⟩,.string ⟨nm3.toArray⟩,.slice X3 m3 d3,.slice X4 m4 d4]] [y] _ _ rfl aK.out rfl zd (by intro c hc u hu;simp at hc;subst hc;simp at hu;rcases hu with rfl|rfl|rfl|rfl|rfl|rfl|rfl|rfl|rfl|rfl|rfl|rfl<;>rfl) (by intro k2 c2 x2 h1 h2;cases k2 with|zero=>(simp only[List.getElem?_cons_zero,Option.some.injEq] at h1 h2;subst h1;subst h2;exact HF.elem fC og.out uP.out HX.out aH.out)|succ k2=>simp at h1) zr z7 (af HF.mr aH.size) ?_);intro v8 w9 bN aM _;have aF:=ag bN aM;clear bN aM);obtain⟨A8,c8,rfl,_,_⟩:=aF.1.open_;have iN:=aa (HF.push fC aH.out aF.1 aF.2);clear bW aK aH aF HF;generalize hL:(l++[y])=l9 at*;have lM:l9.length=l.length+1:=z1k;refine ay.go hK ?_;clear hK K;obtain⟨f0,f1,f2,f3,f4,f5,f6,f7⟩:=iN.b.c8;have q9:=iN.b.frozen 7;refine cmBa1 ?_;refine cmBa1 ?_;refine au ?_;clear q9 f0 f1 f2 f3 f4 f5 f6 f7;have HF:=aa (iN.set fC 7 (.slice A8 l9.length c8));clear iN;rw[lM] at HF;go_upto_region 20 with fail;generalize w9.setCell ⟨w2.heap.size,7,none⟩ (.slice A8 (l.length+1) c8)=wy at*;obtain⟨f0,f1,f2,f3,f4,f5,f6,f7⟩:=HF.b.c8;have h9l:l9.length≤4:=zO;have o9:=Sj HN.out CP.out bI.out sw.out Fs.out sj.out Fq.out HF.out z7
   have Y9:∀y∈l9,y.claims.length≤100000∧BF y.cond:=fun z hz=>by
    rw[←hL] at hz;rcases List.mem_append.1 hz with h|h
    ·exact ym.2 z h
    ·rw[List.mem_singleton.1 h];exact HYO.out
   have QG:OI ⟨sl,hk,hl,ja,yC,fl,ll,l9⟩:=⟨z3x,tL.2,z2Z,Es.2.2,z34,z3q,by show l9.length≤8;omega,Y9⟩;have mM:=aa Y9;have Li:=aa hL;have uQ:=aa lM;go_wp2_with fail;refine(NW (fun k=>k<wy.heap.size∧k≠g) _ ⟨sl,hk,hl,ja,yC,fl,ll,l9⟩ wy o9 QG.sm QG.nt HF.dw.dt.lt).mono ?_;rintro TT FV ⟨⟨b,rfl⟩,jK⟩;replace HF:=aa (HF.below fC jK);clear o9 QG Y9 jK f0 f1 f2 f3 f4 f5 f6 f7 hL lM h9l;have f7:_=some _:=HF.b.cell 7;have q7:=HF.b.frozen 7;have Wv:l.length+1≤c8:=by obtain⟨A9,c9,hq9,hcc,_⟩:=HF.ow.open_;injection hq9 with _ _ hq9;have:=uQ.out;omega
   cases b
   ·have uh:=aa (Bs.pop (by have:=HF.set fC 7 (.slice A8 l.length c8);rw[←Li.out] at this;exact this) rfl);go_wp2_with fail;go_roundw;case rel=>exact⟨⟨k+1,_,l,zd,z7,z4x,ym.2,uh.out⟩⟩
    case measure=>exact z9L
   ·go_wp2_with fail;go_roundw;case rel=>exact⟨⟨k+1,_,l9,zd,z7,by have:=ym.1;have:=uQ.out;omega,mM.out,HF.out⟩⟩
    case measure=>exact z9L
  |cases(zu:Zt 2);refine cmDa2 ?_;refine cmCc1 ?_;refine aW [_] fun K hK=>?_;go_wp2_with(refine bu 62 rfl w3.heap.size rfl rfl Rp.2.2.2 BM ?_;intro w7 uH);exact zbN (zt 3)
  |cases(zu:Zt 3);refine aW [_] fun K hK=>?_;go_wp2_with(refine bu 62 rfl w3.heap.size rfl rfl HQ7.2.2 BM ?_;intro w7 uH);exact zbN (zt 4)
  |cases(zu:Zt 4);refine cmDa2 ?_;refine cmDa2 ?_;refine cmDa2 ?_;refine aZ [_] fun K hK=>?_;go_wp2_with fail;refine(I9 u.aN x.key wq jf.1 HXT.out).mono ?_;rintro e19 U9 ⟨rfl,oK⟩;have Ni:=ag (ai (bt HQ.1.1 oK) (bt HQ.1.2 oK)) (ai (HQ.2.1.below' oK) (HQ.2.2.below aT oK));clear x0 x1 x2 x3 x4 x5 x6 x7 x8 x9 qQ uj g0 g1 g2 HQ fO;generalize uB bB u.aN x.key=zc at*;go_wp2_with fail;refine ay.go hK ⟨(aQ oK _),?_⟩;clear hK K;clear oK;refine aZ [_] fun K hK=>?_;go_wp2_with fail;refine(O5 av _ u.arms zc U9 Ni.2.2).mono ?_;rintro TT FV ⟨rfl,jK⟩;have iT:=ag (ai (bt Ni.1.1 jK) (bt Ni.1.2 jK)) (Ni.2.1.below' jK);generalize pick u.arms zc=zp at*;go_wp2_with fail;refine ay.go hK ⟨(aQ jK _),?_⟩;clear hK K;clear jK Ni;obtain⟨a0,a1,a2,a3,a4⟩:=iT.2.c5;have z1:=iT.2.frozen 1;refine aW [_] fun K hK=>?_;go_wp2_with fail;have mi:=iT.2.bC 1 (.string ⟨u.key.toArray⟩);exact zcs (zt 1)
  |cases(zu:Zt 5);clear f0 q2;refine aZ [_] fun K hK=>?_;go_wp2_with fail;refine(AU B g [117,115,101,114] wq gZ.dw zl).mono ?_;exact zaV (zt 2)
  |cases(zu:Zt 6);refine cmDa4 ?_;refine cmDa3 ?_;refine cmDa4 ?_;refine cmDa2 ?_;clear d0 d1 d2 d3 d4 d5 d6 d7 f0 f1 f2 f3 f4 f5 f6 f7 f8 f9 f10 f11 f12 fO e0 e2;refine aZ [_] fun K hK=>?_;go_wp2_with fail;refine(dH B g nk wq HF.dw z1g z1g).mono ?_;rintro iD wz ⟨⟨_,rfl,r6,rfl,hr6⟩,bF,aO⟩;exact zbQ (zt 3)
  |cases(zu:Zt 7);clear f0 q2;refine aZ [_] fun K hK=>?_;go_wp2_with fail;refine(AU B g [100,101,118,105,99,101] wq gZ.dw zl).mono ?_;exact zaV (zt 3)
  |cases(zu:Zt 8);refine cmDa2 ?_;refine aZ [_] fun K hK=>?_;go_wp2_with fail;have gP:wq.grownBy (wq.setCell ⟨w7.heap.size,1,none⟩ (.string ⟨f.exp.toArray⟩)) (some w7.heap.size):=aR fD (.inl rfl) _;have mi:=HQ.2.2.1.bC 1 (.string ⟨f.exp.toArray⟩);exact zcs (zt 5)
  |cases(zu:Zt 9);clear f0 q2;refine aZ [_] fun K hK=>?_;go_wp2_with fail;refine(AU B g [100,101,118,105,99,101] wq gZ.dw zl).mono ?_;exact zaV (zt 1)
  |cases(zu:Zt 10);clear f0 q2;refine aZ [_] fun K hK=>?_;go_wp2_with fail;refine(AU B g [117,115,101,114] wq gZ.dw zl).mono ?_;exact zaV (zt 0)):P:=h t
theorem zby (t:Q) (h:Q→P:=by
 intro zu;clear bU;generalize wq.heap.size=gN at aK⊢;obtain⟨wq,rfl⟩:∃z,z=wz:=⟨_,rfl⟩
 first
 |cases(zu:Zt 0);exact z96
 |cases(zu:Zt 1);refine aW [_] fun K hK=>?_;exact zbk (zt 0)
 |cases(zu:Zt 2);exact z6k
 |cases(zu:Zt 3);refine aW [_] fun K hK=>?_;exact zb3 (zt 0)
 |cases(zu:Zt 4);exact zb1 (zt 0)
 |cases(zu:Zt 5);have jq:(Instr.lookup 260 (.map (some bn)) (.string ⟨yf.toArray⟩) false).run prog wq= .ok (.slice (some ad) gk cf) wq:=z15;refine cmCc1 ?_;clear jq;exact z9k
 |cases(zu:Zt 6);exact z9k
 |cases(zu:Zt 7);have jq:(Instr.lookup 260 (.map (some bn)) (.string ⟨yf.toArray⟩) false).run prog wq= .ok (.slice none gk cf) wq:=z15;refine cmCc1 ?_;clear jq;exact z9j
 |cases(zu:Zt 8);exact z9j
 |cases(zu:Zt 9);exact z9P
 |cases(zu:Zt 10);exact z5K):P:=h t
theorem zbz (t:Q) (h:Q→P:=by
 intro zu;try go_wp2_with fail
 go_quiet(fail);have HW:=aa (Sl.made (w:=(wq.drewN nq)) (av:=fun x=>x=(wq.drewN nq).heap.size) [.int .i64 (b:Int),.int .i64 ((b:Int)+1),.int .i64 ((q:Int)+1)] 71 (size:=3) rfl rfl);have HO:=aa (World.ownsRow.alloc (show((wq.drewN nq)).ownsRow (gO+1) 71 3 _ _ _ from HR.2.2) (.cells #[.int .i64 (b:Int),.int .i64 ((b:Int)+1),.int .i64 ((q:Int)+1)] 71))
 first
 |cases(zu:Zt 0);exact zan (zt 3)
 |cases(zu:Zt 1);exact zan (zt 1)):P:=h t
theorem zbA (t:Q) (h:Q→P:=by
 intro zu;have WG:=HQ.take hlt XJ.out QF z3e;rw[HH.1] at WG;have fG:=GA.congr (g:=upd g b (q+1)) (fun i hi=>(upd_ne z7).symm);have Eb:=upd_same g b (q+1);have HQ:=aa WG;have xN:=aa Eb;have Uj:=aa fG;clear WG Eb fG GA;have hbo:=QF;go_wp2_with fail;go_quiet(fail);have UU:=((rZ.drewN nq).setH (q+1) (hv+1)).afp b (q+1)
 first
 |cases(zu:Zt 0);have OO:Rr ((((wr.drewN nq).setCell ⟨gH,q+1,none⟩ (.int .i64 ((hv+1:Nat):Int)))).setCell ⟨gO,b,none⟩ (.int .i64 ((q+1:Nat):Int))) (gO+1) _ ([]:List RG):=Rr.far (p:=⟨gO,b,none⟩) (Rr.far (p:=⟨gH,q+1,none⟩) (show Rr (wr.drewN nq) (gO+1) _ _ from HO.out) z4n _) (by show gO<gO+1;omega) _;exact zb4 (zt 0)
 |cases(zu:Zt 1);have OO:Rr ((((wr.drewN nq).setCell ⟨gH,q+1,none⟩ (.int .i64 ((hv+1:Nat):Int)))).setCell ⟨gO,b,none⟩ (.int .i64 ((q+1:Nat):Int))) (gO+1) _ (m++[r]):=Rr.far (p:=⟨gO,b,none⟩) (Rr.far (p:=⟨gH,q+1,none⟩) (show Rr (wr.drewN nq) (gO+1) _ _ from HO.out) z4n _) (by show gO<gO+1;omega) _;exact zb4 (zt 1)):P:=h t
end Go.Proofs
