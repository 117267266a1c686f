/- Steps of the proof: OnceSpec, SameG, OnceSt, CoLaw5. -/
import Derived.Test.YthhfliokjbbbbaaGreatDoorM16
import Derived.Test.YthhfliokjbbbbaaGreatDoorM04
import Derived.Test.YthhfliokjbbbbaaGreatDoorM19
import Derived.Test.YthhfliokjbbbbaaGreatDoorM20
import Derived.Test.YthhfliokjbbbbaaGreatDoorM21
/- CollectorOnce, in plain Lean: no event is accepted twice. -/
namespace Go.Proofs.YthhfliokjbbbbaaGreatDoor
open Go Go.RowKit

def tSum (t : TL) : Int := t.acc + t.dup + t.stale + t.late + t.early + t.full
structure OnR (c d : CL) (l : List EV) : Prop where
 acc : d.t.acc - d.held.length = c.t.acc - c.held.length
 sum : tSum d.t = tSum c.t + l.length
 mem : ∀ e ∈ d.held, e ∈ c.held ∨ e ∈ l
theorem OnR.refl (c : CL) : OnR c c [] := ⟨rfl, by simp, fun e h => .inl h⟩
theorem OnR.trans {c d e : CL} {l m : List EV} (h : OnR c d l) (h2 : OnR d e m) : OnR c e (l ++ m) := by
 refine ⟨by have := h.acc; have := h2.acc; omega, by rw [h2.sum, h.sum, List.length_append]; omega, fun x hx => ?_⟩
 rcases h2.mem x hx with hx | hx
 · rcases h.mem x hx with hx | hx
   · exact .inl hx
   · exact .inr (List.mem_append_left _ hx)
 · exact .inr (List.mem_append_right _ hx)
theorem take_on {c : CL} {k : Nat} {s : SN} {x : EV} (hs : c.seen[k]? = some s) : OnR c (cTake c k x) [x] := by
 unfold cTake
 rw [hs]
 dsimp only
 split
 · exact ⟨rfl, by simp only [tSum, List.length_singleton]; omega, fun e h => .inl h⟩
 split
 · exact ⟨rfl, by simp only [tSum, List.length_singleton]; omega, fun e h => .inl h⟩
 split
 · exact ⟨rfl, by simp only [tSum, List.length_singleton]; omega, fun e h => .inl h⟩
 split
 · exact ⟨rfl, by simp only [tSum, List.length_singleton]; omega, fun e h => .inl h⟩
 split
 · exact ⟨rfl, by simp only [tSum, List.length_singleton]; omega, fun e h => .inl h⟩
 split
 · exact ⟨rfl, by simp only [tSum, List.length_singleton]; omega, fun e h => .inl h⟩
 · refine ⟨by dsimp only; rw [insP_len]; omega, by simp only [tSum, List.length_singleton]; omega, fun e h => ?_⟩
   rcases mem_insP.1 h with rfl | h
   · exact .inr (List.mem_singleton.2 rfl)
   · exact .inl h
theorem takes_on {k : Nat} : ∀ {l : List EV} {c : CL} {s : SN}, c.seen[k]? = some s → OnR c (cTakes k l c) l
 | [], c, _, _ => OnR.refl c
 | x :: r, c, s, hs => by
   obtain ⟨s', hs', -⟩ := ctake_at (x := x) hs
   have := (take_on (x := x) hs).trans (takes_on (l := r) hs')
   exact this
theorem recv_on {c : CL} {b : List UInt8} {now : Int} (h : CVd c) (h1 : c.now ≤ now) (h2 : now ≤ 1099511627776) :
   ((cRecv c 42 b now).2 = 0 → (unpackB 42 b).2 = 0 ∧ OnR c (cRecv c 42 b now).1.1 (unpackB 42 b).1.2.2) ∧ ((cRecv c 42 b now).2 ≠ 0 → OnR c (cRecv c 42 b now).1.1 []) := by
 have hbr : OnR c (cBroken { c with now := now }) [] := ⟨rfl, by simp only [tSum, cBroken, List.length_nil]; omega, fun e h => .inl h⟩
 have hn : CVd { c with now := now } := h.now_ (by have := h.now; omega) h2
 unfold cRecv
 rw [if_pos (cvd_iff.2 h), if_neg (by unfold maxNum; omega)]
 split
 · rename_i hu
   split
   · exact ⟨fun e => by dsimp only at e; omega, fun _ => hbr⟩
   · refine ⟨fun _ => ⟨hu, ?_⟩, fun e => absurd rfl e⟩
     obtain ⟨s, hs, -⟩ := know_at (n := (unpackB 42 b).1.1) hn
     dsimp only at hs ⊢
     have hk := know_now (c := { c with now := now }) (n := (unpackB 42 b).1.1)
     have ht := takes_on (l := (unpackB 42 b).1.2.2) hs
     have hf := first_now (c := cTakes (lbP (ltS (unpackB 42 b).1.1) c.seen) (unpackB 42 b).1.2.2 (cKnow { c with now := now } (unpackB 42 b).1.1)) (k := lbP (ltS (unpackB 42 b).1.1) c.seen) (f := (unpackB 42 b).1.2.1)
     obtain ⟨-, -, -, k4, k5⟩ := hk
     obtain ⟨-, -, -, f4, f5⟩ := hf
     refine ⟨?_, ?_, fun e he => ?_⟩
     · rw [f4, f5, ht.acc, k4, k5]
     · rw [f5, ht.sum, k5]
     · rw [f4] at he
       rcases ht.mem e he with he | he
       · rw [k4] at he; exact .inl he
       · exact .inr he
 · rename_i hu
   exact ⟨fun e => absurd e hu, fun _ => hbr⟩
structure OnI (c : CL) (out sent : List EV) (ev : Nat) : Prop where
 f : FinI c out (cMark c)
 acc : c.t.acc = out.length + c.held.length
 sum : tSum c.t = ev
 mo : ∀ e ∈ out, e ∈ sent
 mh : ∀ e ∈ c.held, e ∈ sent
theorem OnI.ok {c : CL} {out sent : List EV} {ev : Nat} {b : List UInt8} {now : Int} (h : OnI c out sent ev) (h1 : c.now ≤ now) (h2 : now ≤ 1099511627776) (hz : (cRecv c 42 b now).2 = 0) : OnI (cRecv c 42 b now).1.1 out (sent ++ (unpackB 42 b).1.2.2) (ev + (unpackB 42 b).1.2.2.length) ∧ (unpackB 42 b).2 = 0 := by
 obtain ⟨hu, hr⟩ := (recv_on h.f.v h1 h2).1 hz
 refine ⟨⟨fin_weak (fin_recv h.f h1 h2), by have := hr.acc; have := h.acc; omega, by rw [hr.sum, h.sum]; omega, fun e he => List.mem_append_left _ (h.mo e he), fun e he => ?_⟩, hu⟩
 rcases hr.mem e he with he | he
 · exact List.mem_append_left _ (h.mh e he)
 · exact List.mem_append_right _ he
theorem OnI.bad {c : CL} {out sent : List EV} {ev : Nat} {b : List UInt8} {now : Int} (h : OnI c out sent ev) (h1 : c.now ≤ now) (h2 : now ≤ 1099511627776) (hz : (cRecv c 42 b now).2 ≠ 0) : OnI (cRecv c 42 b now).1.1 out sent ev := by
 have hr := (recv_on h.f.v h1 h2).2 hz
 refine ⟨fin_weak (fin_recv h.f h1 h2), by have := hr.acc; have := h.acc; omega, by rw [hr.sum, h.sum]; simp, h.mo, fun e he => ?_⟩
 rcases hr.mem e he with he | he
 · exact h.mh e he
 · cases he
theorem OnI.rel {c : CL} {out sent : List EV} {ev : Nat} (h : OnI c out sent ev) : OnI (cRelease c).1 (out ++ (cRelease c).2) sent ev := by
 have hf := (fin_release h.f).1
 rw [rel_valid h.f.v] at hf ⊢
 have hl : relN c ≤ c.held.length := lbP_le _ _
 refine ⟨hf, ?_, h.sum, fun e he => ?_, fun e he => h.mh e (List.mem_of_mem_drop he)⟩
 · have := h.acc
   simp only [List.length_append, List.length_take, List.length_drop]
   omega
 · rcases List.mem_append.1 he with he | he
   · exact h.mo e he
   · exact h.mh e (List.mem_of_mem_take he)
theorem OnI.close {c : CL} {out sent : List EV} {ev : Nat} (h : OnI c out sent ev) : (cClose c).1.held = [] ∧ (out ++ (cClose c).2).Pairwise (fun a b => lessB a b = true) ∧ c.t.acc = (out ++ (cClose c).2).length ∧ ∀ e ∈ out ++ (cClose c).2, e ∈ sent := by
 have hp := (fin_close h.f).1.pw
 have ha := h.acc
 cases hl : c.held.getLast? with
 | none =>
   have he := List.getLast?_eq_none_iff.1 hl
   rw [close_none he] at hp ⊢
   rw [he] at ha
   refine ⟨he, hp, by simpa using ha, fun e h2 => h.mo e (by simpa using h2)⟩
 | some e =>
   rw [close_some h.f.v hl] at hp ⊢
   refine ⟨rfl, hp, by simp only [List.length_append]; omega, fun e h2 => ?_⟩
   rcases List.mem_append.1 h2 with h2 | h2
   · exact h.mo e h2
   · exact h.mh e h2
theorem on_start {b : Nat} (hb : b < 40) : OnI (cNew (b : Int)).1 [] [] 0 := by
 have hn := new_valid (b := (b : Int)) (by omega) (by omega)
 have ht : (cNew (b : Int)).1.t = TL.zero := by unfold cNew; split <;> rfl
 exact ⟨⟨hn.1, Int.le_refl _, fun e he => (by cases he), List.Pairwise.nil, fun e he => (by cases he)⟩, by rw [ht, hn.2.2.2.1]; rfl, by rw [ht]; rfl, fun e he => (by cases he), fun e he => by rw [hn.2.2.2.1] at he; cases he⟩
end Go.Proofs.YthhfliokjbbbbaaGreatDoor

/- flagstoneref28.SameBatch of any two batches. -/
namespace Go.Proofs.YthhfliokjbbbbaaGreatDoor
open Go Go.RowKit

set_option maxHeartbeats 1000000 in
set_option maxRecDepth 100000 in
theorem sameBatchG_any (av av' : Nat → Prop) (x y : Value) (c c' : List UInt8) (f f' : Int) (l l' : List EV) (w : World) (hx : Evs w av x l) (hy : Evs w av' y l') (hl : l.length ≤ 4294967296) (hl' : l'.length ≤ 4294967296) :
   Calls Tryz.prog 25 #[btV c f x, btV c' f' y] w fun e w' => e = .returned (.bool (decide ((c, f, l) = (c', f', l')))) ∧ Below w.heap.size w w' := by
 have hal := ((Below.refl w.heap.size w).alloc (Nat.le_refl _) (.cells #[.string ⟨c.toArray⟩, .int .i64 f, x] 51)).alloc (by simp) (.cells #[.string ⟨c'.toArray⟩, .int .i64 f', y] 51)
 have hx1 := hx.below hal
 have hy1 := hy.below hal
 obtain ⟨A, k, rfl, hc1, hc2⟩ := hx.open_
 obtain ⟨B, d, rfl, hd1, hd2⟩ := hy.open_
 unfold btV
 by_cases e1 : c = c'
 · subst e1
   by_cases e2 : f = f'
   · subst e2
     have hdd : decide ((c, f, l) = (c, f, l')) = decide (l = l') := by simp
     rw [hdd]
     clear hdd
     have e1 : (c == c) = true := by simp
     have e2 : (f == f) = true := by simp
     go_enter Tryz.func25, Tryz.ntmps25
     go_wp2_with fail
     refine (sameEvents_any av av' _ _ l l' _ hx1 hy1 hl hl').mono ?_
     rintro r w1 ⟨rfl, hb1⟩
     go_wp2_with fail
     go_ret
     exact ⟨rfl, below_then hal hal.size hb1⟩
   · have hdd : decide ((c, f, l) = (c, f', l')) = false := by simp [e2]
     rw [hdd]
     have e1 : (c == c) = true := by simp
     have e3 : (f == f') = false := by simpa using e2
     clear e2 hdd
     go_enter Tryz.func25, Tryz.ntmps25
     go_wp2_with fail
     go_ret
     exact ⟨rfl, hal⟩
 · have hdd : decide ((c, f, l) = (c', f', l')) = false := by simp [e1]
   rw [hdd]
   have e3 : (c == c') = false := by simpa using e1
   clear e1 hdd
   go_enter Tryz.func25, Tryz.ntmps25
   go_wp2_with fail
   go_ret
   exact ⟨rfl, hal⟩
end Go.Proofs.YthhfliokjbbbbaaGreatDoor

/- CollectorOnce: the state of its walk. -/
namespace Go.Proofs.YthhfliokjbbbbaaGreatDoor
open Go Go.RowKit

theorem run_eql_ev (a b : EV) (w : World) (x y : Operand) : (do eqGuard .eql 38 x y (evV a) (evV b); binOp .eql 38 (evV a) (evV b)).run Tryz.prog w = .ok (.bool (decide (a = b))) w := by
 have h := run_equal_ev a b w 9998
 unfold evV at h ⊢
 rw [Sem.run_bind, run_eqGuard_agg w .eql _ x y _ _ ev_guard]
 simp only [Result.andThen_ok]
 rw [run_eql_struct w]
 rw [h]
 rfl
theorem wpList_eql_ev {ops : Array Oper} {rest : List Oper} {o : Oper} {a : Act} {w : World} {Q : Exit → Act → World → Prop} (hw : Region.wanted o (yielded ops a.tmps) = true) (x y : Operand) (rt : TypeId)
   (ho : o.op = .binOp .eql 38 x y rt) (e1 e2 : EV) (hx : a.eval x = evV e1) (hy : a.eval y = evV e2) (h : wpList Tryz.prog ops Q rest (a.put o.dst (.bool (decide (e1 = e2)))) w) : wpList Tryz.prog ops Q (o :: rest) a w := by
 refine wpList_step fun _ hK => ?_
 simp only [hw, if_true]
 unfold Oper.wp execOp
 simp only [ho, hx, hy]
 rw [Sem.run_bind, run_eql_ev e1 e2 w x y]
 exact hK _ _ h
theorem store_co (wr : World) (cs : Array Value) : Blk (wr.alloc (.cells cs 30)) wr.heap.size 30 cs ∧ Below wr.heap.size wr (wr.alloc (.cells cs 30)) :=
 ⟨Blk.new wr _ _, below_alloc' wr _⟩
theorem store_bat (wr : World) (cs : Array Value) : Blk (wr.alloc (.cells cs 51)) wr.heap.size 51 cs ∧ Below wr.heap.size wr (wr.alloc (.cells cs 51)) :=
 ⟨Blk.new wr _ _, below_alloc' wr _⟩
theorem store_tal (wr : World) (cs : Array Value) : Blk (wr.alloc (.cells cs 28)) wr.heap.size 28 cs ∧ Below wr.heap.size wr (wr.alloc (.cells cs 28)) :=
 ⟨Blk.new wr _ _, below_alloc' wr _⟩
def avO (gc : Nat) (vo vs : Value) (b : Nat) : Prop := b ≠ gc ∧ vo.ownBlock ≠ some b ∧ vs.ownBlock ≠ some b
structure OnW (w W : World) (gc : Nat) (c : CL) (out sent : List EV) (vo vs : Value) : Prop where
 b : Below w.heap.size w W
 g : w.heap.size ≤ gc
 c : ∃ sv hv ls, Hc W (avO gc vo vs) gc c sv hv ls
 o : Ro W (gc + 1) 10 38 vo out.length (out.flatMap evCells)
 s : Ro W (gc + 1) 10 38 vs sent.length (sent.flatMap evCells)
 d : ∀ b, vo.ownBlock = some b → vs.ownBlock ≠ some b
section
variable {sv hv : Value} {ls : List SV} {w W W' : World} {gc : Nat} {c c' : CL} {out sent more : List EV} {vo vs vo' vs' : Value}
theorem OnW.below (h : OnW w W gc c out sent vo vs) (hb : Below W.heap.size W W') : OnW w W' gc c out sent vo vs := by
 obtain ⟨sv, hv, ls, hc⟩ := h.c
 exact ⟨below_then h.b h.b.size hb, h.g, ⟨sv, hv, ls, hc.below hb⟩, h.o.below hb, h.s.below hb, h.d⟩
theorem OnW.lt (h : OnW w W gc c out sent vo vs) : gc < W.heap.size := by
 obtain ⟨sv, hv, ls, hc⟩ := h.c
 exact hc.blk.lt
theorem OnW.new (h : OnW w W gc c out sent vo vs) {sv hv : Value} {ls : List SV} (hc : CoL W' (fun b => W.heap.size ≤ b) c' sv hv ls) : CoL W' (avO gc vo vs) c' sv hv ls :=
 hc.weaken fun k hk _ => ⟨fun e => by have := h.lt; omega, fun e => by have := (h.o.row k e).2; omega, fun e => by have := (h.s.row k e).2; omega⟩
theorem OnW.store (h : OnW w W gc c out sent vo vs) {sv hv : Value} {ls : List SV} (hc : CoL W (avO gc vo vs) c' sv hv ls) (hs : Blk W' gc 30 (coCells c' sv hv).toArray ∧ W.grownBy W' (some gc)) : OnW w W' gc c' out sent vo vs := by
 refine ⟨below_only_g h.b h.b.size hs.2 h.g, h.g, ⟨sv, hv, ls, hs.1, hc.keep (fun b hb hl => hs.2.block b hl (fun e => hb.1 (Option.some.inj e))), fun e => e.1 rfl⟩, h.o.chg (Chg.one hs.2) (fun b hb e => ?_), h.s.chg (Chg.one hs.2) (fun b hb e => ?_), h.d⟩
 · have := (h.o.row b hb).1; omega
 · have := (h.s.row b hb).1; omega
theorem avO.appS (h : CoL W (avO gc vo vs) c sv hv ls) (hch : Chg (fun k => vs.ownBlock = some k) W W') (hn : ∀ k, vs'.ownBlock = some k → vs.ownBlock = some k ∨ W.heap.size ≤ k) : CoL W' (avO gc vo vs') c sv hv ls := by
 refine CoL.keep (h.weaken (av' := fun k => avO gc vo vs' k ∧ vs.ownBlock ≠ some k) fun k hk hl => ⟨⟨hk.1, hk.2.1, fun e => ?_⟩, hk.2.2⟩) (fun b hb hl => hch.block b hl hb.2) |>.weaken fun k hk _ => hk.1
 rcases hn k e with h1 | h1
 · exact hk.2.2 h1
 · omega
theorem avO.appO (h : CoL W (avO gc vo vs) c sv hv ls) (hch : Chg (fun k => vo.ownBlock = some k) W W') (hn : ∀ k, vo'.ownBlock = some k → vo.ownBlock = some k ∨ W.heap.size ≤ k) : CoL W' (avO gc vo' vs) c sv hv ls := by
 refine CoL.keep (h.weaken (av' := fun k => avO gc vo' vs k ∧ vo.ownBlock ≠ some k) fun k hk hl => ⟨⟨hk.1, fun e => ?_, hk.2.2⟩, hk.2.1⟩) (fun b hb hl => hch.block b hl hb.2) |>.weaken fun k hk _ => hk.1
 rcases hn k e with h1 | h1
 · exact hk.2.1 h1
 · omega
theorem OnW.appS (h : OnW w W gc c out sent vo vs) (hR : Ro W' (gc + 1) 10 38 vs' (sent.length + more.length) (sent.flatMap evCells ++ more.flatMap evCells)) (hch : Chg (fun k => vs.ownBlock = some k) W W') (hn : ∀ k, vs'.ownBlock = some k → vs.ownBlock = some k ∨ W.heap.size ≤ k) : OnW w W' gc c out (sent ++ more) vo vs' := by
 obtain ⟨sv, hv, ls, hc⟩ := h.c
 refine ⟨Chg.below h.b hch h.b.size fun k hk => ?_, h.g, ⟨sv, hv, ls, hch.blk hc.blk fun e => ?_, avO.appS hc.col hch hn, fun e => e.1 rfl⟩, h.o.chg hch h.d, ?_, fun b hb e => ?_⟩
 · have := (h.s.row k hk).1; have := h.g; omega
 · have := (h.s.row _ e).1; omega
 · rw [List.length_append, List.flatMap_append]; exact hR
 · rcases hn b e with h1 | h1
   · exact h.d b hb h1
   · have := (h.o.row b hb).2; omega
theorem OnW.appO (h : OnW w W gc c out sent vo vs) (hR : Ro W' (gc + 1) 10 38 vo' (out.length + more.length) (out.flatMap evCells ++ more.flatMap evCells)) (hch : Chg (fun k => vo.ownBlock = some k) W W') (hn : ∀ k, vo'.ownBlock = some k → vo.ownBlock = some k ∨ W.heap.size ≤ k) : OnW w W' gc c (out ++ more) sent vo' vs := by
 obtain ⟨sv, hv, ls, hc⟩ := h.c
 refine ⟨Chg.below h.b hch h.b.size fun k hk => ?_, h.g, ⟨sv, hv, ls, hch.blk hc.blk fun e => ?_, avO.appO hc.col hch hn, fun e => e.1 rfl⟩, ?_, h.s.chg hch (fun b hb e => h.d b e hb), fun b hb e => ?_⟩
 · have := (h.o.row k hk).1; have := h.g; omega
 · have := (h.o.row _ e).1; omega
 · rw [List.length_append, List.flatMap_append]; exact hR
 · rcases hn b hb with h1 | h1
   · exact h.d b h1 e
   · have := (h.s.row b e).2; omega
end
theorem arEvs_len (a : AR) (sp : Int) : (arEvs a sp).length ≤ 32 := by
 unfold arEvs
 rw [List.length_map, arSeqs_len, List.length_take]
 omega
structure OcP (c : CL) (out sent : List EV) (k : Nat) (nw : Int) : Prop where
 o : OnI c out sent sent.length
 t : CT c (32 * k)
 n : c.now ≤ nw
 nb : 0 ≤ nw ∧ nw ≤ 20 * k
 ol : out.length ≤ 256 * k
 sl : sent.length ≤ 32 * k
structure OcQ (c : CL) (out sent : List EV) (k : Nat) (nw : Int) : Prop where
 o : OnI c out sent sent.length
 t : CT c (32 * k)
 n : c.now ≤ nw
 nb : 0 ≤ nw ∧ nw ≤ 20 * k
 ol : out.length + 256 ≤ 256 * k
 sl : sent.length ≤ 32 * k
theorem OcP.recv {c : CL} {out sent : List EV} {k : Nat} {nw d : Int} {b : List UInt8} (h : OcP c out sent k nw) (hk : k ≤ 30) (h1 : 0 ≤ d) (h2 : d < 20) :
   (cRecv c 42 b (nw + d)).2 < 25 ∧ ((cRecv c 42 b (nw + d)).2 = 0 → (unpackB 42 b).2 = 0 ∧ OcQ (cRecv c 42 b (nw + d)).1.1 out (sent ++ (unpackB 42 b).1.2.2) (k + 1) (nw + d)) ∧
   ((cRecv c 42 b (nw + d)).2 ≠ 0 → OcQ (cRecv c 42 b (nw + d)).1.1 out sent (k + 1) (nw + d)) := by
 have hnb := h.nb
 have hn := h.n
 have hv := h.o.f.v
 have hct := recv_ct (key := 42) (b := b) (now := nw + d) h.t (by omega)
 rw [show (32 : Int) * k + 32 = 32 * ((k + 1 : Nat) : Int) by omega] at hct
 have hnow := (recv_now (key := 42) (b := b) (now := nw + d) hv (by omega) (by omega)).1
 have hol := h.ol
 have hsl := h.sl
 refine ⟨recv_err hv (by omega) (by omega), fun hz => ?_, fun hz => ?_⟩
 · obtain ⟨h3, hu⟩ := h.o.ok (by omega) (by omega) hz
   have hlen := (unpack_ok hu).len
   refine ⟨hu, ⟨?_, hct, by omega, by omega, by omega, by rw [List.length_append]; omega⟩⟩
   rw [List.length_append]
   exact h3
 · exact ⟨h.o.bad (by omega) (by omega) hz, hct, by omega, by omega, by omega, by omega⟩
theorem OcQ.rel {c : CL} {out sent : List EV} {k : Nat} {nw : Int} (h : OcQ c out sent k nw) : OcP (cRelease c).1 (out ++ (cRelease c).2) sent k nw := by
 have hl : (cRelease c).2.length ≤ 256 := by
   rw [rel_valid h.o.f.v]
   have := h.o.f.v.hl
   simp only [List.length_take]
   omega
 have hs : (cRelease c).1.t = c.t ∧ (cRelease c).1.now = c.now := by unfold cRelease; split <;> exact ⟨rfl, rfl⟩
 obtain ⟨h1, h2, h3, h4, h5, h6, h7⟩ := h.t
 refine ⟨h.o.rel, ?_, by rw [hs.2]; exact h.n, h.nb, by rw [List.length_append]; have := h.ol; omega, h.sl⟩
 constructor <;> rw [hs.1] <;> assumption
theorem OcQ.keep {c : CL} {out sent : List EV} {k : Nat} {nw : Int} (h : OcQ c out sent k nw) : OcP c out sent k nw := ⟨h.o, h.t, h.n, h.nb, by have := h.ol; omega, h.sl⟩
theorem OcP.skip {c : CL} {out sent : List EV} {k : Nat} {nw d : Int} (h : OcP c out sent k nw) (h1 : 0 ≤ d) (h2 : d < 20) : OcP c out sent (k + 1) (nw + d) := by
 have hnb := h.nb
 have hn := h.n
 have hol := h.ol
 have hsl := h.sl
 obtain ⟨t1, t2, t3, t4, t5, t6, t7⟩ := h.t
 refine ⟨h.o, ?_, by omega, by omega, by omega, by omega⟩
 constructor <;> omega
theorem oc_start {b : Nat} (hb : b < 40) : OcP (cNew (b : Int)).1 [] [] 0 0 := by
 obtain ⟨h1, h2, h3, h4, -, -⟩ := new_valid (b := (b : Int)) (by omega) (by omega)
 exact ⟨on_start hb, h2, by omega, by omega, by simp, by simp⟩
end Go.Proofs.YthhfliokjbbbbaaGreatDoor

/- CollectorOnce. -/
namespace Go.Proofs.YthhfliokjbbbbaaGreatDoor
open Go Go.RowKit

set_option maxHeartbeats 8000000 in
set_option maxRecDepth 100000 in
theorem collectorOnce_any (bd sp : Nat) (hbd : bd ≤ 255) (hsp : sp ≤ 255) (v vr : Value) (L : List AR) (RL : List Bool) (w : World) (hL : Arrs w.heap.size w v L) (hR : Bls w (fun k => k < w.heap.size) vr RL) (htb : Tab w) :
   Calls Tryz.prog 6 #[.int .u8 (bd : Int), .int .u8 (sp : Int), v, vr] w fun r w' => r = .returned (.bool true) ∧ Below w.heap.size w w' := by
 have HT := Lib.hid htb
 have HL := Lib.hid hL
 have HRL := Lib.hid hR
 obtain ⟨AL, nL, rfl, -, -⟩ := hL.open_
 obtain ⟨AR0, nR, rfl, hR1, hR2⟩ := hR.open_
 clear htb hL hR
 go_enter Tryz.func6, Tryz.ntmps6
 go_wp2_with fail
 refine (awake30_any w HT.out).mono ?_
 rintro r w1 ⟨rfl, hb1⟩
 by_cases hlong : (30 : Int) < (L.length : Int)
 · go_wp2_with fail
   go_ret
   exact ⟨rfl, hb1⟩
 have hl30 : (L.length : Int) ≤ 30 := by omega
 clear hlong
 go_wp2_with fail
 have hst := start_any bd hbd
 unfold coV nilS at hst
 refine (hst _).mono ?_
 clear hst
 rintro r w2 ⟨rfl, hb2⟩
 have hB2 := below_then hb1 hb1.size hb2
 have HP0 := Lib.hid (oc_start (b := bd % 40) (by omega))
 have HN1 : Hid ((cNew ((bd % 40 : Nat) : Int)).1.seen = [] ∧ (cNew ((bd % 40 : Nat) : Int)).1.held = []) := Lib.hid (by unfold cNew; split <;> exact ⟨rfl, rfl⟩)
 generalize (cNew ((bd % 40 : Nat) : Int)).1 = c0 at HP0 HN1
 go_upto_region 6 with fail
 generalize hw9 : World.alloc _ _ = wq
 have hs : Blk wq w2.heap.size 30 (coCells c0 (.slice none 0 0) (.slice none 0 0)).toArray ∧ Below w2.heap.size w2 wq := by rw [← hw9]; exact store_co w2 _
 clear hw9
 have hW0 : OnW w wq w2.heap.size c0 [] [] (.slice none 0 0) (.slice none 0 0) := ⟨below_then hB2 hB2.size hs.2, hB2.size, ⟨_, _, [], hs.1, CoL.nil _ _ HN1.out.1 HN1.out.2, fun h => h.1 rfl⟩, Ro.nil _ _ _ _, Ro.nil _ _ _ _, fun b hb => by cases hb⟩
 generalize w2.heap.size = gc at hW0 ⊢
 clear hs HN1 hB2 hb1 hb2
 obtain ⟨s5, hs5⟩ : ∃ s5 : Int, s5 = 1 + (sp : Int) % 50 := ⟨_, rfl⟩
 have hs1 : 1 ≤ s5 := by omega
 have hs2 : s5 ≤ 50 := by omega
 have HS5 := Lib.hid hs5.symm
 clear hs5
 go_wp2_with fail
 go_loopw [10, 11, 12, 13, 14] (fun s10 s11 s12 s13 i W => ∃ (k : Nat) (nw : Int) (c : CL) (out sent : List EV), i = .int .i64 (k : Int) ∧ s12 = .int .i64 nw ∧ s13 = .int .i64 (sent.length : Int) ∧ k ≤ L.length ∧ OcP c out sent k nw ∧ OnW w W gc c out sent s10 s11) (fun _ _ _ _ i _ => L.length - (intOf i).toNat)
 case atStart => exact ⟨0, 0, c0, [], [], rfl, rfl, rfl, by omega, HP0.out, hW0⟩
 case round =>
   clear hW0 HP0
   obtain ⟨k, nw, c, out, sent, rfl, rfl, rfl, hk, hP, hW⟩ := hrel
   have HPP := Lib.hid hP
   have hol := hP.ol
   have hsl := hP.sl
   have hnb := hP.nb
   obtain ⟨hnb1, hnb2⟩ := hnb
   obtain ⟨Ao, no, rfl, -, -⟩ := hW.o.open_
   obtain ⟨As, ns, rfl, -, -⟩ := hW.s.open_
   clear hP
   by_cases hlt : k < L.length
   rotate_left 1
   ·
     obtain ⟨sv, hv, ls, hH⟩ := hW.c
     obtain ⟨A3, n3, rfl, -, -⟩ := hH.col.seen.open_
     obtain ⟨A4, n4, rfl, -, -⟩ := hH.col.held.open_
     have HC0 := Lib.hid HPP.out.o.close
     have hsum := HPP.out.o.sum
     unfold tSum at hsum
     have HSU : Hid (c.t.acc + c.t.dup + c.t.stale + c.t.late + c.t.early + c.t.full = (sent.length : Int)) := Lib.hid hsum
     obtain ⟨⟨t1, t2, t3⟩, t4, t5, t6⟩ := tl_nn HPP.out.o.f.v
     obtain ⟨u1, u2, u3, u4, u5, u6, -⟩ := HPP.out.t
     have hcl2 : (cClose c).2.length ≤ 256 := by
       have hv2 := HPP.out.o.f.v
       cases hl : c.held.getLast? with
       | none => rw [close_none (List.getLast?_eq_none_iff.1 hl)]; simp
       | some e => rw [close_some hv2 hl]; exact hv2.hl
     have HV := Lib.hid HPP.out.o.f.v
     have hgc0 := hW.lt
     clear hsum
     obtain ⟨⟨d0, d1', d2', d3, d4⟩, d5, d6, d7, d8, d9, d10, d11⟩ := hH.blk.co
     go_upto_region 30 with fail
     generalize hw9 : World.alloc _ _ = wz
     have hs : Blk wz wr.heap.size 28 #[.int .i64 c.t.acc, .int .i64 c.t.dup, .int .i64 c.t.stale, .int .i64 c.t.late, .int .i64 c.t.early, .int .i64 c.t.full, .int .i64 c.t.broken] ∧ Below wr.heap.size wr wz := by rw [← hw9]; exact store_tal wr _
     clear hw9 d0 d1' d2' d3 d4 d5 d6 d7 d8 d9 d10 d11 hH
     obtain ⟨k24, hb⟩ := hs
     have hg24 : gc < wr.heap.size := hgc0
     obtain ⟨g24, hge⟩ : ∃ g, g = wr.heap.size := ⟨_, rfl⟩
     rw [← hge] at k24 hg24 ⊢
     clear hge
     replace hW := hW.below hb
     try replace hx := hx.below hb
     try replace hy := hy.below hb
     try replace hu := hu.below hb
     try replace k16 := k16.below' hb
     try replace k17 := k17.below' hb
     clear hb
     obtain ⟨wr, rfl⟩ : ∃ z, z = wz := ⟨_, rfl⟩
     have hbb : (c.t.acc + c.t.dup + c.t.stale + c.t.late + c.t.early + c.t.full != (sent.length : Int)) = false := by rw [bne_eq_false_iff_eq]; exact HSU.out
     have q0 := k24.cell 0
     have q1 := k24.cell 1
     have q2 := k24.cell 2
     have q3 := k24.cell 3
     have q4 := k24.cell 4
     have q5 := k24.cell 5
     simp only [List.getElem?_toArray, List.getElem?_cons_zero, List.getElem?_cons_succ] at q0 q1 q2 q3 q4 q5
     go_upto_region 32 with fail
     clear q0 q1 q2 q3 q4 q5 hbb
     obtain ⟨sv, hv, ls, hH⟩ := hW.c
     obtain ⟨A3, n3, rfl, -, -⟩ := hH.col.seen.open_
     obtain ⟨A4, n4, rfl, -, -⟩ := hH.col.held.open_
     obtain ⟨⟨d0, d1', d2', d3, d4⟩, d5, d6, d7, d8, d9, d10, d11⟩ := hH.blk.co
     go_wp2_with fail
     have hcl := close_any _ c (.slice A3 ls.length n3) (.slice A4 c.held.length n4) ls _ (HT.out.below hW.b) hH.col HV.out.cw
     unfold coV at hcl
     refine hcl.mono ?_
     clear hcl d0 d1' d2' d3 d4 d5 d6 d7 d8 d9 d10 d11 hH
     rintro r wz ⟨sv4, hv4, l4, lv, rfl, hc4, he4, hb⟩
     have hcc := HC0.out
     clear HC0
     obtain ⟨c2, hc2⟩ : ∃ c2, (cClose c).1 = c2 := ⟨_, rfl⟩
     obtain ⟨more, hmore⟩ : ∃ more, (cClose c).2 = more := ⟨_, rfl⟩
     rw [hmore] at he4 hcc hcl2
     rw [hc2] at hc4 hcc ⊢
     have HCC := Lib.hid hcc
     clear hc2 hmore hcc
     obtain ⟨A5, m5, rfl, -, -⟩ := hc4.seen.open_
     obtain ⟨A6, m6, rfl, -, -⟩ := hc4.held.open_
     obtain ⟨Al, ml, rfl, -, -⟩ := he4.open_
     have hgw := hW.lt
     replace hc4 := hW.new hc4
     replace he4 := he4.weaken (av' := fun b => b ≠ gc) (fun b hb _ => by have h9 : wr.heap.size ≤ b := hb; omega)
     replace k24 := k24.below' hb
     replace hW := hW.below hb
     try replace hx := hx.below hb
     try replace hy := hy.below hb
     try replace hu := hu.below hb
     try replace k16 := k16.below' hb
     try replace k17 := k17.below' hb
     clear hb
     obtain ⟨wr, rfl⟩ : ∃ z, z = wz := ⟨_, rfl⟩
     obtain ⟨sv, hv, ls, hH⟩ := hW.c
     obtain ⟨⟨r0, r1, r2, r3, r4⟩, r5, r6, r7, r8, r9, r10, r11⟩ := hH.blk.co
     obtain ⟨⟨f0, f1, f2, f3, f4⟩, f5, f6, f7, f8, f9, f10, f11⟩ := hH.blk.froz12
     go_upto_region 33 with fail
     generalize hw9 : World.setCell _ _ _ = wz
     have hs : Blk wz gc 30 (coCells c2 (.slice A5 l4.length m5) (.slice A6 c2.held.length m6)).toArray ∧ wr.grownBy wz (some gc) := by
       rw [← hw9]; exact blk_set12v hH.blk _ _ _ _ _ _ _ _ _ _ _ _
     clear hw9 r0 r1 r2 r3 r4 r5 r6 r7 r8 r9 r10 r11 f0 f1 f2 f3 f4 f5 f6 f7 f8 f9 f10 f11
     replace hW := hW.store hc4 hs
     replace he4 := Evs.keep he4 (fun b hb hl => hs.2.block b hl (fun e => hb (Option.some.inj e)))
     replace k24 := (hs.2.block g24 k24.lt (fun e => by have := Option.some.inj e; omega)).trans k24
     clear hs hH hc4
     obtain ⟨wr, rfl⟩ : ∃ z, z = wz := ⟨_, rfl⟩
     go_upto_region 34 with (at_builtin; refine wpList_append_ro tyE rfl (.tmp 163) (.tmp 164) rfl (gc + 1) _ out.length (out.flatMap evCells) rfl hW.o hW.lt (by omega) _ _ more.length (more.flatMap evCells) rfl he4 (by omega) evs_one ?_; intro v12 w12 h12 hch12 hn12; obtain ⟨A12, n12, hv12, -, -⟩ := h12.open_; subst hv12)
     replace k24 := hch12.blk k24 (fun h => hW.o.offB k24 (by decide) h)
     replace hW := hW.appO h12 hch12 hn12
     clear he4 h12 hch12 hn12
     have hlo : (out ++ more).length ≤ 10000 := by rw [List.length_append]; omega
     have HLO : Hid (out.length + more.length = (out ++ more).length) := Lib.hid (by rw [List.length_append])
     rw [HLO.out] at hW ⊢
     generalize out ++ more = ou at hW HCC hlo HLO ⊢
     obtain ⟨hz1, hz2, hz3, hz4⟩ := HCC.out
     have HZ1 : Hid (((c2.held.length : Int) == 0) = true) := Lib.hid (by rw [hz1]; rfl)
     have HZ3 : Hid ((c.t.acc == (ou.length : Int)) = true) := Lib.hid (by rw [beq_iff_eq]; exact hz3)
     have HZ2 := Lib.hid hz2
     have HZ4 := Lib.hid hz4
     have HW := Lib.hid hW
     have K24 := Lib.hid k24
     clear HCC hz1 hz2 hz3 hz4 hW k24 u1 u2 u3 u4 u5 u6 t1 t2 t3 t4 t5 t6 HSU
     go_wp2_with fail
     go_loopw [26] (fun i W => Bx (∃ j : Nat, i = .int .i64 (j : Int) ∧ j ≤ ou.length ∧ Below w12.heap.size w12 W)) (fun i _ => ou.length - (intOf i).toNat)
     case atStart => exact ⟨⟨0, rfl, by omega, Below.refl _ _⟩⟩
     case round =>
       obtain ⟨⟨j, rfl, hj, hb⟩⟩ := hrel
       have hWj := HW.out.below hb
       have k24j := K24.out.below' hb
       by_cases hjl : j < ou.length
       rotate_left 1
       ·
         obtain ⟨sv, hv, ls, hH⟩ := hWj.c
         obtain ⟨A6, m6, rfl, -, -⟩ := hH.col.held.open_
         have d4 := hH.blk.co.1.2.2.2.2
         have q0 := k24j.cell 0
         simp only [List.getElem?_toArray, List.getElem?_cons_zero] at q0
         have z1 := HZ1.out
         have z3 := HZ3.out
         go_wp2_with fail
         go_ret
         exact ⟨rfl, hWj.b⟩
       have hEo : Evs wr _ (.slice A12 ou.length n12) ou := hWj.o.sl
       have hmem := HZ4.out _ (List.getElem_mem hjl)
       obtain ⟨y, hyq⟩ : ∃ y, ou[j] = y := ⟨_, rfl⟩
       rw [hyq] at hmem
       have HY := Lib.hid hyq
       have HMEM := Lib.hid hmem
       clear hyq hmem
       go_wp2_with fail
       go_loopw [27, 28] (fun s27 i W => Bx (∃ (m : Nat) (b : Bool), s27 = .bool b ∧ i = .int .i64 (m : Int) ∧ m ≤ sent.length ∧ (y ∈ sent.take m → b = true) ∧ Below wr.heap.size wr W)) (fun _ i _ => sent.length - (intOf i).toNat)
       case atStart => exact ⟨⟨0, false, rfl, rfl, by omega, fun h => by simp at h, Below.refl _ _⟩⟩
       case round =>
         obtain ⟨⟨m, b, rfl, rfl, hm, hin, hb2⟩⟩ := hrel
         have hWm := hWj.below hb2
         have HIN := Lib.hid hin
         clear hin
         obtain ⟨ao, hAo, -, cm⟩ := (show Evs wr _ (.slice A12 ou.length n12) ou from hWm.o.sl).at_ hjl
         rw [HY.out] at cm
         by_cases hml : m < sent.length
         rotate_left 1
         · have hbt : b = true := HIN.out (by rw [List.take_of_length_le (by omega)]; exact HMEM.out)
           subst hbt
           by_cases hj0 : 0 < j
           ·
             obtain ⟨q, hq⟩ : ∃ q, j = q + 1 := ⟨j - 1, by omega⟩
             have hql : q < ou.length := by omega
             have hq2 : ((j : Int) - 1) = (q : Int) := by omega
             have hb0 : decide (0 < j) = true := decide_eq_true (by omega)
             obtain ⟨ae, hAe, -, cm'⟩ := (show Evs wr _ (.slice A12 ou.length n12) ou from hWm.o.sl).at_ hql
             subst hAo
             injection hAe with hAe
             subst hAe
             have hless : lessB (ou[q]) y = true := by rw [← HY.out]; exact List.pairwise_iff_getElem.1 HZ2.out q j hql hjl (by omega)
             generalize ou[q] = x1 at cm' hless
             have HLS := Lib.hid hless
             have HJQ := Lib.hid hq
             obtain ⟨⟨e0, e1, e2, e3, e4⟩, e5, e6, e7, e8, e9⟩ := cm.cells
             obtain ⟨⟨z0, z1, z2, z3, z4⟩, z5, z6, z7, z8, z9⟩ := cm'.cells
             clear hless cm cm' hEo hq
             go_wp2_with fail
             refine wp_region_way [[.calm 0 false, .calm 1 false, .calm 2 false, .calm 3 false], [.calm 4 true, .calm 5 false, .calm 6 false, .calm 7 false], [.calm 8 true, .calm 9 false, .calm 10 false, .calm 11 false, .calm 12 false, .calm 13 false, .calm 14 false, .eff 15 none false, .calm 16 false, .calm 17 false, .calm 18 false]] none (by as_aux_lemma => kernel_rfl) (by as_aux_lemma => kernel_rfl) (by as_aux_lemma => kernel_rfl) (by as_aux_lemma => kernel_rfl) ?_
             refine seg_plain rfl rfl (fun K hK => ?_)
             simp only [sgA, sgB, itAt, sgC, sgD, sgE]
             show wpList _ _ _ [_, _, _, _] _ _
             go_wp2_with fail
             refine EndQ.normal (hK.go ?_)
             clear hK K
             refine seg_chk rfl rfl (fun K hK => ?_)
             simp only [sgA, sgB, itAt, sgC, sgD, sgE]
             show wpList _ _ _ [_, _, _, _] _ _
             go_wp2_with fail
             refine EndQ.normal (hK.go ?_)
             clear hK K
             refine seg_chk rfl rfl (fun K hK => ?_)
             simp only [sgA, sgB, itAt, sgC, sgD, sgE]
             show wpList _ _ _ [_, _, _, _, _, _, _, _, _, _, _] _ _
             go_wp2_with fail
             have hls := rLess_any x1 y wr.drew
             unfold evV at hls
             refine hls.mono ?_
             rintro r w15 ⟨rfl, hb15⟩
             rw [HLS.out]
             go_wp2_with fail
             refine EndQ.normal (hK.go ?_)
             clear hK K
             refine seg_end ?_
             go_wp2_with fail
             go_roundw
             case rel => exact ⟨⟨j + 1, by simp, by omega, below_then (below_then hb hb.size hb2).drew (below_then hb hb.size hb2).size hb15⟩⟩
             case measure => simp [intOf]; omega
           ·
             have hb0 : decide (0 < j) = false := decide_eq_false (by omega)
             clear hEo hj0 cm hAo
             go_wp2_with fail
             refine wp_region_way [[.calm 0 false, .calm 1 false, .calm 2 false, .calm 3 false], [.calm 4 true, .calm 5 false, .calm 6 false, .calm 7 false], [.calm 8 true, .calm 9 false, .calm 10 false, .calm 11 false, .calm 12 false, .calm 13 false, .calm 14 false, .eff 15 none false, .calm 16 false, .calm 17 false, .calm 18 false]] none (by as_aux_lemma => kernel_rfl) (by as_aux_lemma => kernel_rfl) (by as_aux_lemma => kernel_rfl) (by as_aux_lemma => kernel_rfl) ?_
             refine seg_plain rfl rfl (fun K hK => ?_)
             simp only [sgA, sgB, itAt, sgC, sgD, sgE]
             show wpList _ _ _ [_, _, _, _] _ _
             go_wp2_with fail
             refine EndQ.normal (hK.go ?_)
             clear hK K
             refine seg_chk rfl rfl (fun K hK => ?_)
             simp only [sgA, sgB, itAt, sgC, sgD, sgE]
             show wpList _ _ _ [_, _, _, _] _ _
             go_wp2_with fail
             refine EndQ.normal (hK.go ?_)
             clear hK K
             refine seg_chk rfl rfl (fun K hK => ?_)
             simp only [sgA, sgB, itAt, sgC, sgD, sgE]
             show wpList _ _ _ [_, _, _, _, _, _, _, _, _, _, _] _ _
             go_wp2_with fail
             refine EndQ.normal (hK.go ?_)
             clear hK K
             refine seg_end ?_
             go_wp2_with fail
             go_roundw
             case rel => exact ⟨⟨j + 1, by simp, by omega, (below_then hb hb.size hb2).drew⟩⟩
             case measure => simp [intOf]; omega
         cases b with
         | true =>
           clear cm hEo hAo
           go_wp2_with fail
           refine wp_region_way [[.calm 0 false, .calm 1 false, .calm 2 false, .calm 3 false, .calm 4 false, .calm 5 false, .calm 6 false, .calm 7 false, .calm 8 false, .calm 9 false], [.calm 10 true, .calm 11 false, .calm 12 false]] none (by as_aux_lemma => kernel_rfl) (by as_aux_lemma => kernel_rfl) (by as_aux_lemma => kernel_rfl) (by as_aux_lemma => kernel_rfl) ?_
           refine seg_plain rfl rfl (fun K hK => ?_)
           simp only [sgA, sgB, itAt, sgC, sgD, sgE]
           show wpList _ _ _ [_, _, _, _, _, _, _, _, _, _] _ _
           go_wp2_with fail
           refine EndQ.normal (hK.go ?_)
           clear hK K
           refine seg_chk rfl rfl (fun K hK => ?_)
           simp only [sgA, sgB, itAt, sgC, sgD, sgE]
           show wpList _ _ _ [_, _, _] _ _
           go_wp2_with fail
           refine EndQ.normal (hK.go ?_)
           clear hK K
           refine seg_end ?_
           go_wp2_with fail
           go_roundw
           case rel => exact ⟨⟨m + 1, true, rfl, by simp, by omega, fun _ => rfl, hb2.drew⟩⟩
           case measure => simp [intOf]; omega
         | false =>
           obtain ⟨ae, hAe, -, cm'⟩ := (show Evs wr _ (.slice As sent.length ns) sent from hWm.s.sl).at_ hml
           subst hAe
           subst hAo
           obtain ⟨x1, hx1⟩ : ∃ x1, sent[m] = x1 := ⟨_, rfl⟩
           rw [hx1] at cm'
           have HX1 := Lib.hid hx1
           obtain ⟨⟨e0, e1, e2, e3, e4⟩, e5, e6, e7, e8, e9⟩ := cm.cells
           obtain ⟨⟨z0, z1, z2, z3, z4⟩, z5, z6, z7, z8, z9⟩ := cm'.cells
           clear cm cm' hEo hx1
           go_wp2_with fail
           refine wp_region_tree (.path [[.calm 0 false, .calm 1 false, .calm 2 false, .calm 3 false, .calm 4 false, .calm 5 false, .calm 6 false, .calm 7 false, .calm 8 false, .calm 9 false], [.eff 10 none false], [.calm 11 false, .calm 12 false]]) none (by as_aux_lemma => kernel_rfl) (by as_aux_lemma => kernel_rfl) (by as_aux_lemma => kernel_rfl) ?_
           show wpSegs _ _ _ _ _ _ _ _ _
           refine seg_plain rfl rfl (fun K hK => ?_)
           simp only [sgA, sgB, itAt, sgC, sgD, sgE]
           show wpList _ _ _ [_, _, _, _, _, _, _, _, _, _] _ _
           go_wp2_with fail
           refine EndQ.normal (hK.go ?_)
           clear hK K
           refine seg_plain rfl rfl (fun K hK => ?_)
           simp only [sgA, sgB, itAt, sgC, sgD, sgE]
           show wpList _ _ _ [_] _ _
           refine wpList_eql_ev rfl _ _ _ rfl x1 y rfl rfl ?_
           generalize hde : decide (x1 = y) = de
           have HDE := Lib.hid hde
           clear hde
           go_wp2_with fail
           refine EndQ.normal (hK.go ?_)
           clear hK K
           refine seg_plain rfl rfl (fun K hK => ?_)
           simp only [sgA, sgB, itAt, sgC, sgD, sgE]
           show wpList _ _ _ [_, _] _ _
           go_wp2_with fail
           refine EndQ.normal (hK.go ?_)
           clear hK K
           refine seg_end ?_
           go_wp2_with fail
           go_roundw
           case rel =>
             refine ⟨⟨m + 1, de, by rfl, by simp, by omega, fun h => ?_, hb2.drew⟩⟩
             rw [← HDE.out]
             rw [List.take_add_one, List.getElem?_eq_getElem hml] at h
             rcases List.mem_append.1 h with h1 | h1
             · exact absurd (HIN.out h1) (by decide)
             · simp at h1
               rw [← HX1.out, h1]
               simp
           case measure => simp [intOf]; omega
   have hLw := HL.out.belowB arKeeps hW.b (fun k hk => hk)
   obtain ⟨ad, hAd, hAt⟩ := hLw.at_ hlt
   subst hAd
   obtain ⟨a, ha⟩ : ∃ a, L[k]'hlt = a := ⟨_, rfl⟩
   rw [ha] at hAt
   have HA := Lib.hid ha
   obtain ⟨Aa, na, hbs, a0, a1, a2, a3, a4⟩ := hAt.open_
   clear hLw hAt ha
   have haf := a.after.toNat_lt
   obtain ⟨d, hd⟩ : ∃ d : Int, d = (a.after.toNat : Int) % 20 := ⟨_, rfl⟩
   have hd1 : 0 ≤ d := by omega
   have hd2 : d < 20 := by omega
   have HD := Lib.hid hd.symm
   clear hd
   go_upto_region 12 with fail
   rw [HD.out]
   have hR3 := HPP.out.recv (b := arBytes a s5) (by omega) hd1 hd2
   have HSK := Lib.hid (HPP.out.skip hd1 hd2)
   have HV := Lib.hid HPP.out.o.f.v
   have HCT := Lib.hid HPP.out.t
   generalize hnn : nw + d = nn at hR3 HSK ⊢
   obtain ⟨c1, hc1⟩ : ∃ c1, (cRecv c 42 (arBytes a s5) nn).1.1 = c1 := ⟨_, rfl⟩
   obtain ⟨ak, hak⟩ : ∃ ak, (cRecv c 42 (arBytes a s5) nn).1.2 = ak := ⟨_, rfl⟩
   obtain ⟨er, her⟩ : ∃ er, (cRecv c 42 (arBytes a s5) nn).2 = er := ⟨_, rfl⟩
   have HRV : Hid (cRecv c 42 (arBytes a s5) nn = ((c1, ak), er)) := Lib.hid (by rw [← hc1, ← hak, ← her])
   rw [her, hc1] at hR3
   have HLU := Lib.hid (fun h : (unpackB 42 (arBytes a s5)).2 = 0 => (unpack_ok h).len)
   obtain ⟨⟨⟨uc, uf, ul⟩, ue⟩, hup⟩ : ∃ p, p = unpackB 42 (arBytes a s5) := ⟨_, rfl⟩
   rw [← hup] at hR3 HLU
   have HUN := Lib.hid hup
   have hER := hR3.1
   have HR0 := Lib.hid hR3.2.1
   have HR1 := Lib.hid hR3.2.2
   dsimp only at HR0 HR1 HLU
   clear hc1 hak her hnn hR3 hup
   go_wp2_with fail
   rw [HS5.out]
   have hby := arBytes_any _ a (.slice Aa a.seqs.length na) s5 hs1 hs2 _ hbs
   unfold arV at hby
   refine hby.mono ?_
   clear hby hbs a0 a1 a2 a3 a4
   rintro e wz ⟨x, rfl, hx, hb⟩
   obtain ⟨Ax, nx, rfl, -, -⟩ := hx.open_
   replace hW := hW.below hb
   try replace hx := hx.below hb
   try replace hy := hy.below hb
   try replace hu := hu.below hb
   try replace k16 := k16.below' hb
   try replace k17 := k17.below' hb
   clear hb
   obtain ⟨wr, rfl⟩ : ∃ z, z = wz := ⟨_, rfl⟩
   have hLw := HL.out.belowB arKeeps hW.b (fun k hk => hk)
   obtain ⟨ad', hAd, hAt⟩ := hLw.at_ hlt
   injection hAd with hAd
   subst hAd
   rw [HA.out] at hAt
   obtain ⟨Ab, nb, hbs, a0, a1, a2, a3, a4⟩ := hAt.open_
   clear hLw hAt
   go_wp2_with fail
   rw [HS5.out]
   have hbt := arBatch_any _ a (.slice Ab a.seqs.length nb) s5 hs1 hs2 _ hbs
   unfold arV at hbt
   refine hbt.mono ?_
   clear hbt hbs a0 a1 a2 a3 a4
   rintro e wz ⟨y, rfl, hy, hb⟩
   obtain ⟨Ay, ny, rfl, -, -⟩ := hy.open_
   replace hW := hW.below hb
   try replace hx := hx.below hb
   try replace hy := hy.below hb
   try replace hu := hu.below hb
   try replace k16 := k16.below' hb
   try replace k17 := k17.below' hb
   clear hb
   obtain ⟨wr, rfl⟩ : ∃ z, z = wz := ⟨_, rfl⟩
   have HPL : Hid ((arBytes a s5).length ≤ 1000000) := Lib.hid (by rw [arBytes_len]; exact pack30_len (ar_cb hs1 hs2) (ar_eb hs1 hs2))
   have HEL := Lib.hid (arEvs_len a s5)
   obtain ⟨be, hbe⟩ : ∃ be, arEvs a s5 = be := ⟨_, rfl⟩
   obtain ⟨bf, hbf⟩ : ∃ bf, arFirst a = bf := ⟨_, rfl⟩
   obtain ⟨bc, hbc⟩ : ∃ bc, cliN a.client.toNat = bc := ⟨_, rfl⟩
   rw [hbe] at hy HEL ⊢
   rw [hbf, hbc]
   clear hbe hbf hbc
   unfold btV
   go_upto_region 14 with fail
   generalize hw9 : World.alloc _ _ = wz
   have hs : Blk wz wr.heap.size 51 #[.string ⟨(bc).toArray⟩, .int .i64 bf, .slice Ay be.length ny] ∧ Below wr.heap.size wr wz := by rw [← hw9]; exact store_bat wr _
   clear hw9
   obtain ⟨k16, hb⟩ := hs
   generalize wr.heap.size = g16 at k16 ⊢
   replace hW := hW.below hb
   try replace hx := hx.below hb
   try replace hy := hy.below hb
   try replace hu := hu.below hb
   try replace k16 := k16.below' hb
   try replace k17 := k17.below' hb
   clear hb
   obtain ⟨wr, rfl⟩ : ∃ z, z = wz := ⟨_, rfl⟩
   go_wp2_with fail
   refine (rUnpack_any _ _ 42 _ _ hx HPL.out).mono ?_
   rintro r wz ⟨z, rfl, hu, hb⟩
   rw [← HUN.out] at hu ⊢
   dsimp only at hu ⊢
   obtain ⟨Au, nu, rfl, -, -⟩ := hu.open_
   replace hW := hW.below hb
   try replace hx := hx.below hb
   try replace hy := hy.below hb
   try replace hu := hu.below hb
   try replace k16 := k16.below' hb
   try replace k17 := k17.below' hb
   clear hb
   obtain ⟨wr, rfl⟩ : ∃ z, z = wz := ⟨_, rfl⟩
   unfold btV
   go_upto_region 15 with fail
   generalize hw9 : World.alloc _ _ = wz
   have hs : Blk wz wr.heap.size 51 #[.string ⟨(uc).toArray⟩, .int .i64 uf, .slice Au ul.length nu] ∧ Below wr.heap.size wr wz := by rw [← hw9]; exact store_bat wr _
   clear hw9
   obtain ⟨k17, hb⟩ := hs
   generalize wr.heap.size = g17 at k17 ⊢
   replace hW := hW.below hb
   try replace hx := hx.below hb
   try replace hy := hy.below hb
   try replace hu := hu.below hb
   try replace k16 := k16.below' hb
   try replace k17 := k17.below' hb
   clear hb
   obtain ⟨wr, rfl⟩ : ∃ z, z = wz := ⟨_, rfl⟩
   by_cases hsm : ue = 0 ∧ (uc, uf, ul) ≠ (bc, bf, be)
   ·
     have hul := HLU.out hsm.1
     have e0 : (ue == 0) = true := by rw [beq_iff_eq]; exact hsm.1
     have HDD : Hid (decide ((uc, uf, ul) = (bc, bf, be)) = false) := Lib.hid (decide_eq_false hsm.2)
     have hbl := HEL.out
     clear hsm
     obtain ⟨⟨c0', c1', c2'⟩, -⟩ := k16.threeB
     obtain ⟨⟨d0, d1, d2⟩, -⟩ := k17.threeB
     go_wp2_with fail
     refine (sameBatchG_any _ _ _ _ uc bc uf bf ul be _ hu hy (by omega) (by omega)).mono ?_
     rintro r wz ⟨rfl, hb⟩
     rw [HDD.out]
     clear c0' c1' c2' d0 d1 d2
     replace hW := hW.below hb
     try replace hx := hx.below hb
     try replace hy := hy.below hb
     try replace hu := hu.below hb
     try replace k16 := k16.below' hb
     try replace k17 := k17.below' hb
     clear hb
     obtain ⟨wr, rfl⟩ : ∃ z, z = wz := ⟨_, rfl⟩
     go_wp2_with fail
     go_roundw
     case rel => exact ⟨k + 1, nn, c, out, sent, by simp, rfl, rfl, by omega, HSK.out, hW⟩
     case measure => simp [intOf]; omega
   have HUB : Hid (ue = 0 → ul = be) := Lib.hid (fun h => by
     have := Decidable.not_and_iff_not_or_not.1 hsm
     rcases this with h1 | h1
     · exact absurd h h1
     · have h2 := Decidable.not_not.1 h1
       injection h2 with h2 h3
       injection h3)
   go_cut [81] from 74 to 80 (fun s81 wx => s81 = .bool false ∧ Below wr.heap.size wr wx)
   case first =>
     by_cases hue : ue = 0
     · have hul := HLU.out hue
       have hbl := HEL.out
       have e0 : (ue == 0) = true := by rw [beq_iff_eq]; exact hue
       have HDD : Hid (decide ((uc, uf, ul) = (bc, bf, be)) = true) := Lib.hid (by
         by_cases h2 : (uc, uf, ul) = (bc, bf, be)
         · exact decide_eq_true h2
         · exact absurd ⟨hue, h2⟩ hsm)
       clear hsm hue
       obtain ⟨⟨c0', c1', c2'⟩, -⟩ := k16.threeB
       obtain ⟨⟨d0, d1, d2⟩, -⟩ := k17.threeB
       go_wp2_with fail
       refine (sameBatchG_any _ _ _ _ uc bc uf bf ul be _ hu hy (by omega) (by omega)).mono ?_
       rintro r wz ⟨rfl, hb⟩
       rw [HDD.out]
       clear c0' c1' c2' d0 d1 d2
       go_wp2_with fail
       go_meet
       exact ⟨rfl, hb⟩
     · have e0 : (ue == 0) = false := by rw [beq_eq_false_iff_ne]; exact hue
       clear hsm hue
       go_wp2_with fail
       go_meet
       exact ⟨rfl, Below.refl _ _⟩
   case rest =>
     obtain ⟨rfl, hb⟩ := hcut
     clear hsm k17 hu
     obtain ⟨wz, hwz⟩ : ∃ z, z = wc := ⟨_, rfl⟩
     replace hW := hW.below hb
     replace hx := hx.below hb
     replace hy := hy.below hb
     replace k16 := k16.below' hb
     clear hb hwz wz
     obtain ⟨sv, hv, ls, hH⟩ := hW.c
     obtain ⟨A3, n3, rfl, -, -⟩ := hH.col.seen.open_
     obtain ⟨A4, n4, rfl, -, -⟩ := hH.col.held.open_
     obtain ⟨⟨d0, d1', d2', d3, d4⟩, d5, d6, d7, d8, d9, d10, d11⟩ := hH.blk.co
     go_wp2_with fail
     have hrc := receive_any _ _ c (.slice A3 ls.length n3) (.slice A4 c.held.length n4) (.slice Ax (arBytes a s5).length nx) ls 42 (arBytes a s5) nn (32 * k) _ (HT.out.below hW.b) hH.col HV.out.cw hx HPL.out HCT.out (by omega)
     unfold coV at hrc
     refine hrc.mono ?_
     clear hrc d0 d1' d2' d3 d4 d5 d6 d7 d8 d9 d10 d11
     rw [HRV.out]
     rintro e wz ⟨sv8, hv8, l8, lv8, rfl, he6, hI8, hb⟩
     dsimp only at he6 hI8 ⊢
     obtain ⟨A8, m8, rfl, -, -⟩ := hI8.open_
     obtain ⟨A6, m6, rfl, -, -⟩ := he6.seen.open_
     obtain ⟨A7, m7, rfl, -, -⟩ := he6.held.open_
     replace he6 := hW.new he6
     clear hI8 hH hx
     replace hW := hW.below hb
     try replace hx := hx.below hb
     try replace hy := hy.below hb
     try replace hu := hu.below hb
     try replace k16 := k16.below' hb
     try replace k17 := k17.below' hb
     clear hb
     obtain ⟨wr, rfl⟩ : ∃ z, z = wz := ⟨_, rfl⟩
     go_upto_region 17 with fail
     generalize hw9 : World.alloc _ _ = wz
     have hs : Blk wz wr.heap.size 30 (coCells c1 (.slice A6 l8.length m6) (.slice A7 c1.held.length m7)).toArray ∧ Below wr.heap.size wr wz := by rw [← hw9]; exact store_co wr _
     clear hw9
     obtain ⟨k19, hb⟩ := hs
     generalize wr.heap.size = g19 at k19 ⊢
     replace he6 := he6.below hb
     replace hW := hW.below hb
     try replace hx := hx.below hb
     try replace hy := hy.below hb
     try replace hu := hu.below hb
     try replace k16 := k16.below' hb
     try replace k17 := k17.below' hb
     clear hb
     obtain ⟨wr, rfl⟩ : ∃ z, z = wz := ⟨_, rfl⟩
     have e25 : (er == 25) = false := by rw [beq_eq_false_iff_ne]; omega
     have e26 : (er == 26) = false := by rw [beq_eq_false_iff_ne]; omega
     go_upto_if 97 with fail
     go_cut [11, 13] from 97 to 106 (fun s11 s13 wx => ∃ sent2, s13 = .int .i64 (sent2.length : Int) ∧ OcQ c1 out sent2 (k + 1) nn ∧ OnW w wx gc c out sent2 (.slice Ao out.length no) s11 ∧ CoL wx (avO gc (.slice Ao out.length no) s11) c1 (.slice A6 l8.length m6) (.slice A7 c1.held.length m7) l8 ∧ Blk wx g19 30 (coCells c1 (.slice A6 l8.length m6) (.slice A7 c1.held.length m7)).toArray)
     case first =>
       by_cases hz : er = 0
       · obtain ⟨hue, hQ⟩ := HR0.out hz
         have hub := HUB.out hue
         rw [hub] at hQ
         have HQ := Lib.hid hQ
         have hbl := HEL.out
         have e0 : (er == 0) = true := by rw [beq_iff_eq]; exact hz
         obtain ⟨vs, hvs⟩ : ∃ vs, vs = Value.slice As sent.length ns := ⟨_, rfl⟩
         have HVS := Lib.hid hvs
         clear hz hue hQ hub
         obtain ⟨⟨c0', c1', c2'⟩, -⟩ := k16.threeB
         go_wp2_with (at_builtin; refine wpList_append_ro tyE rfl (.tmp 103) (.tmp 105) rfl (gc + 1) _ sent.length (sent.flatMap evCells) rfl hW.s hW.lt (by omega) _ _ be.length (be.flatMap evCells) rfl hy (by omega) evs_one ?_; intro v12 w12 h12 hch12 hn12; obtain ⟨A12, n12, hv12, -, -⟩ := h12.open_; subst hv12)
         go_meet
         refine ⟨sent ++ be, by rw [List.length_append]; simp, HQ.out, ?_, avO.appS he6 hch12 hn12, hch12.blk k19 (fun h => hW.s.offB k19 (by decide) h)⟩
         exact hW.appS h12 hch12 hn12
       · have hQ := HR1.out hz
         have HQ := Lib.hid hQ
         have e0 : (er == 0) = false := by rw [beq_eq_false_iff_ne]; exact hz
         clear hz hQ
         go_wp2_with fail
         go_meet
         exact ⟨sent, rfl, HQ.out, hW, he6, k19⟩
     case rest =>
       obtain ⟨sent2, rfl, hQ, hW2, hc2, hk2⟩ := hcut
       obtain ⟨As2, ns2, hvs2, -, -⟩ := hW2.s.open_
       subst hvs2
       clear hW he6 k19 k16 hy
       obtain ⟨sv2, hv2, ls2, hH2⟩ := hW2.c
       have HVN := Lib.hid hQ.o.f.v
       have HCT2 := Lib.hid hQ.t
       have HQ := Lib.hid hQ
       have hol2 := hQ.ol
       have hsl2 := hQ.sl
       clear hQ
       obtain ⟨⟨d0, d1', d2', d3, d4⟩, d5, d6, d7, d8, d9, d10, d11⟩ := hk2.co
       obtain ⟨⟨r0, r1, r2, r3, r4⟩, r5, r6, r7, r8, r9, r10, r11⟩ := hH2.blk.co
       obtain ⟨⟨f0, f1, f2, f3, f4⟩, f5, f6, f7, f8, f9, f10, f11⟩ := hH2.blk.froz12
       go_upto_region 23 with fail
       generalize hw9 : World.setCell _ _ _ = w9
       have hs : Blk w9 gc 30 (coCells c1 (.slice A6 l8.length m6) (.slice A7 c1.held.length m7)).toArray ∧ wc.grownBy w9 (some gc) := by
         rw [← hw9]; exact blk_set12v hH2.blk _ _ _ _ _ _ _ _ _ _ _ _
       clear hw9 d0 d1' d2' d3 d4 d5 d6 d7 d8 d9 d10 d11 r0 r1 r2 r3 r4 r5 r6 r7 r8 r9 r10 r11 f0 f1 f2 f3 f4 f5 f6 f7 f8 f9 f10 f11
       have hW := hW2.store hc2 hs
       clear hs hc2 hk2 hW2 hH2
       go_cut [117] from 108 to 116 (fun s117 wx => (∃ b, s117 = .bool b) ∧ wx = w9)
       case first =>
         by_cases hkr : k < RL.length
         · obtain ⟨ar, hAr, -, hcell⟩ := (HRL.out.belowB hW.b (fun k hk => hk)).at_ hkr
           subst hAr
           have bk : decide ((k : Int) < (RL.length : Int)) = true := decide_eq_true (by omega)
           generalize RL[k] = rb at hcell
           go_wp2_with fail
           go_meet
           exact ⟨⟨_, rfl⟩, rfl⟩
         · have bk : decide ((k : Int) < (RL.length : Int)) = false := decide_eq_false (by omega)
           go_wp2_with fail
           go_meet
           exact ⟨⟨_, rfl⟩, rfl⟩
       case rest =>
         obtain ⟨⟨rb, rfl⟩, rfl⟩ := hcut
         go_upto_if 117 with fail
         go_cut [10, 22, 23] from 117 to 126 (fun s10 _ _ wx => ∃ c3 out3, OcP c3 out3 sent2 (k + 1) nn ∧ OnW w wx gc c3 out3 sent2 s10 (.slice As2 sent2.length ns2))
         case first =>
           cases rb with
           | false =>
             go_wp2_with fail
             go_meet
             exact ⟨c1, out, HQ.out.keep, hW⟩
           | true =>
             have hgc0 := hW.lt
             obtain ⟨sv, hv, ls, hH⟩ := hW.c
             obtain ⟨A3, n3, rfl, -, -⟩ := hH.col.seen.open_
             obtain ⟨A4, n4, rfl, -, -⟩ := hH.col.held.open_
             obtain ⟨⟨d0, d1', d2', d3, d4⟩, d5, d6, d7, d8, d9, d10, d11⟩ := hH.blk.co
             go_wp2_with fail
             have hcl := release_any _ c1 (.slice A3 ls.length n3) (.slice A4 c1.held.length n4) ls wc (HT.out.below hW.b) hH.col HVN.out.cw
             unfold coV at hcl
             refine hcl.mono ?_
             clear hcl d0 d1' d2' d3 d4 d5 d6 d7 d8 d9 d10 d11 hH
             rintro r wz ⟨sv4, hv4, l4, lv, rfl, hc4, he4, hb⟩
             have HP2 := Lib.hid HQ.out.rel
             have hml : (cRelease c1).2.length ≤ 256 := by
               rw [rel_valid HVN.out]
               have := HVN.out.hl
               simp only [List.length_take]
               omega
             obtain ⟨c2, hc2⟩ : ∃ c2, (cRelease c1).1 = c2 := ⟨_, rfl⟩
             obtain ⟨more, hmore⟩ : ∃ more, (cRelease c1).2 = more := ⟨_, rfl⟩
             rw [hmore] at he4 HP2 hml
             rw [hc2] at hc4 HP2 ⊢
             clear hc2 hmore
             obtain ⟨A5, m5, rfl, -, -⟩ := hc4.seen.open_
             obtain ⟨A6', m6', rfl, -, -⟩ := hc4.held.open_
             obtain ⟨Al, ml, rfl, -, -⟩ := he4.open_
             replace hc4 := hW.new hc4
             replace hW := hW.below hb
             try replace hx := hx.below hb
             try replace hy := hy.below hb
             try replace hu := hu.below hb
             try replace k16 := k16.below' hb
             try replace k17 := k17.below' hb
             clear hb
             obtain ⟨wr, rfl⟩ : ∃ z, z = wz := ⟨_, rfl⟩
             go_upto_region 25 with fail
             generalize hw9 : World.alloc _ _ = wz
             have hs : Blk wz wr.heap.size 30 (coCells c2 (.slice A5 l4.length m5) (.slice A6' c2.held.length m6')).toArray ∧ Below wr.heap.size wr wz := by rw [← hw9]; exact store_co wr _
             clear hw9
             obtain ⟨k22, hb⟩ := hs
             generalize wr.heap.size = g22 at k22 ⊢
             replace hc4 := hc4.below hb
             replace he4 := he4.below hb
             replace hW := hW.below hb
             try replace hx := hx.below hb
             try replace hy := hy.below hb
             try replace hu := hu.below hb
             try replace k16 := k16.below' hb
             try replace k17 := k17.below' hb
             clear hb
             obtain ⟨wr, rfl⟩ : ∃ z, z = wz := ⟨_, rfl⟩
             obtain ⟨sv, hv, ls, hH⟩ := hW.c
             obtain ⟨⟨d0, d1', d2', d3, d4⟩, d5, d6, d7, d8, d9, d10, d11⟩ := k22.co
             obtain ⟨⟨r0, r1, r2, r3, r4⟩, r5, r6, r7, r8, r9, r10, r11⟩ := hH.blk.co
             obtain ⟨⟨f0, f1, f2, f3, f4⟩, f5, f6, f7, f8, f9, f10, f11⟩ := hH.blk.froz12
             go_upto_region 26 with fail
             generalize hw9 : World.setCell _ _ _ = wz
             have hs : Blk wz gc 30 (coCells c2 (.slice A5 l4.length m5) (.slice A6' c2.held.length m6')).toArray ∧ wr.grownBy wz (some gc) := by
               rw [← hw9]; exact blk_set12v hH.blk _ _ _ _ _ _ _ _ _ _ _ _
             clear hw9 d0 d1' d2' d3 d4 d5 d6 d7 d8 d9 d10 d11 r0 r1 r2 r3 r4 r5 r6 r7 r8 r9 r10 r11 f0 f1 f2 f3 f4 f5 f6 f7 f8 f9 f10 f11
             replace hW := hW.store hc4 hs
             replace he4 := Evs.keep (he4.weaken (av' := fun b => b ≠ gc) (fun b hb _ => by have h9 : wc.heap.size ≤ b := hb; omega)) (fun b hb hl => hs.2.block b hl (fun e => hb (Option.some.inj e)))
             clear hs hH hc4 k22
             go_wp2_with (at_builtin; refine wpList_append_ro tyE rfl (.tmp 124) (.tmp 125) rfl (gc + 1) _ out.length (out.flatMap evCells) rfl hW.o hW.lt (by omega) _ _ more.length (more.flatMap evCells) rfl he4 (by omega) evs_one ?_; intro v12 w12 h12 hch12 hn12; obtain ⟨A12, n12, hv12, -, -⟩ := h12.open_; subst hv12)
             go_meet
             refine ⟨c2, out ++ more, HP2.out, ?_⟩
             exact hW.appO h12 hch12 hn12
         case rest =>
           obtain ⟨c3, out3, hP3, hW3⟩ := hcut
           clear hW
           obtain ⟨sv, hv, ls, hH⟩ := hW3.c
           obtain ⟨Ao2, no2, rfl, -, -⟩ := hW3.o.open_
           obtain ⟨A4, n4, rfl, -, -⟩ := hH.col.held.open_
           obtain ⟨⟨-, -, -, -, d4⟩, d5, -⟩ := hH.blk.co
           have hol3 := hP3.ol
           have hhl3 := hP3.o.f.v.hl
           have hacc : (c3.t.acc != (out3.length : Int) + (c3.held.length : Int)) = false := by have := hP3.o.acc; rw [bne_eq_false_iff_eq]; omega
           have HP3 := Lib.hid hP3
           clear hP3
           go_wp2_with fail
           go_roundw
           case rel => exact ⟨k + 1, nn, c3, out3, sent2, by simp, rfl, rfl, by omega, HP3.out, hW3⟩
           case measure => simp [intOf]; omega
end Go.Proofs.YthhfliokjbbbbaaGreatDoor
