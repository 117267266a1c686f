/- Steps of the proof. -/
import Derived.Test.YtbmopacdflgfjaaGreatDoorM06
set_option maxHeartbeats 40000000
set_option maxRecDepth 100000
namespace Go.Proofs.YtbmopacdflgfjaaGreatDoor
open Go Go.RowKit Go.Proofs.Tryz
theorem ah.put {w0 w:World} {g i:Nat} {t:TypeId} {cs cs':Array Value} (h:ah w g t cs∧w0.grownBy w (some g)) (u:Value) (hc:cs.setIfInBounds i u=cs'):ah (w.setCell ⟨g,i,none⟩ u) g t cs'∧w0.grownBy (w.setCell ⟨g,i,none⟩ u) (some g):=
 ⟨hc▸h.1.bC i u,aR h.2 (p:=⟨g,i,none⟩) (.inl rfl) u⟩
theorem ah.four {w:World} {g:Nat} {t:TypeId} {a b c d:Value} (h:ah w g t #[a,b,c,d]):
   (w.cell? ⟨g,0,none⟩=some a∧w.cell? ⟨g,1,none⟩=some b∧w.cell? ⟨g,2,none⟩=some c∧w.cell? ⟨g,3,none⟩=some d)∧(w.frozen? ⟨g,0,none⟩=false∧w.frozen? ⟨g,1,none⟩=false∧w.frozen? ⟨g,2,none⟩=false∧w.frozen? ⟨g,3,none⟩=false):=by refine⟨⟨?_,?_,?_,?_⟩,h.frozen 0,h.frozen 1,h.frozen 2,h.frozen 3⟩<;>rw[h.cell]<;>rfl
theorem II {w w1 w2:World} {row:Option Nat} (h:w.grownBy w1 row) (h1:w1.grownBy w2 row):w.grownBy w2 row:=
 ⟨h1.os.trans h.os,h1.tape.trans h.tape,h1.output.trans h.output,af h.size h1.size,fun k hk hr=>(h1.block k (Nat.lt_of_lt_of_le hk h.size) hr).trans (h.block k hk hr)⟩
def anG (w:World) (g n:Nat) (s:SS) (i:Value) (wr:World):Prop:=
 ∃k:Nat,i= .int .i64 (k:Int)∧k≤n∧ah wr g 341 #[.int .u64 (qK k s).a,.int .u64 (qK k s).b,.int .u64 (qK k s).c,.int .u64 (qK k s).d]∧w.grownBy wr (some g)
theorem OD (g n:Nat) (hn:n≤8) (s:SS) (w:World) (hk:ah w g 341 #[.int .u64 s.a,.int .u64 s.b,.int .u64 s.c,.int .u64 s.d]):
   Calls prog 242 #[.pointer (some ⟨g,0,none⟩),.int .i64 (n:Int)] w fun e w'=>e= .returned (.tuple #[])∧ah w' g 341 #[.int .u64 (qK n s).a,.int .u64 (qK n s).b,.int .u64 (qK n s).c,.int .u64 (qK n s).d]∧w.grownBy w' (some g):=by
 go_enter func242,ntmps242;go_wp2_with fail;go_loopw [5] (fun i wr=>anG w g n s i wr) (fun i _=>n-(intOf i).toNat);case atStart=>exact⟨0,rfl,z7,hk,World.grownBy.refl _ _⟩
 case round=>
  clear hk;obtain⟨k,rfl,EY,hk,hG⟩:=hrel;by_cases hlt:k<n;rotate_left 1
  ·have akS:k=n:=z7;have HK:=aa akS;clear akS;go_wp2_with fail;go_end0;rw[←HK.out];exact⟨rfl,hk,hG⟩
  obtain⟨s0,ER⟩:∃s0,qK k s=s0:=⟨_,rfl⟩;rw[ER] at hk;have HS:=aa (show qK (k+1) s=afv s0 by rw[←ER];rfl);clear ER;obtain⟨a,b,c,d⟩:=s0;simp only at hk;have ma:=(⟨hk,World.grownBy.refl wr (some g)⟩:ah wr g _ _∧wr.grownBy wr (some g));clear hk;go_wp2_with fail;obtain⟨⟨c0,c1,c2,c3⟩,⟨f0,f1,f2,f3⟩⟩:=ah.four ma.1;refine aJ (.path [[.calm 0 false],[.calm 1 true,.calm 2 false,.calm 3 false,.calm 4 false],[.calm 5 true,.calm 6 false,.calm 7 false],[.calm 8 true],[.calm 9 true,.calm 10 false],[.aB 11 none false]]) none za za za ?_;exact zbf (zt 1)
def yV (m:Int) (s:SS):SS:=
 let t:=qK 2 ⟨s.a,s.b,s.c,iX s.d m⟩
 ⟨iX t.a m,t.b,t.c,t.d⟩
theorem TU (g:Nat) (m:Int) (s:SS) (w:World) (hk:ah w g 341 #[.int .u64 s.a,.int .u64 s.b,.int .u64 s.c,.int .u64 s.d]):
   Calls prog 241 #[.pointer (some ⟨g,0,none⟩),.int .u64 m] w fun e w'=>e= .returned (.tuple #[])∧ah w' g 341 #[.int .u64 (yV m s).a,.int .u64 (yV m s).b,.int .u64 (yV m s).c,.int .u64 (yV m s).d]∧w.grownBy w' (some g):=by obtain⟨a,b,c,d⟩:=s;simp only at hk;obtain⟨⟨c0,c1,c2,c3⟩,⟨f0,f1,f2,f3⟩⟩:=ah.four hk;go_enter func241,ntmps241;exact zaU (zt 1)
end Go.Proofs.YtbmopacdflgfjaaGreatDoor
