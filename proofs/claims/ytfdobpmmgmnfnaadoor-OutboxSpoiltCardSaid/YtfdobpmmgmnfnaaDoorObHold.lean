/- A block that holds an outbox; the acts that a law of chapter 29 is given. -/
import Derived.Test.YtfdobpmmgmnfnaaDoorObPlain
namespace Go.Proofs.YtfdobpmmgmnfnaaDoor
open Go Go.RowKit

theorem below_alloc (w : World) (o : Obj) : Below w.heap.size w (w.alloc o) := (Below.refl _ _).alloc (Nat.le_refl _) o
/-- The block g holds the outbox o; its events lie in blocks of av, of which g is none. -/
structure Hb (w : World) (av : Nat → Prop) (g : Nat) (A : Option Addr) (c : Nat) (o : OB) : Prop where
  blk : Blk w g 27 #[.string ⟨o.client.toArray⟩, .int .i64 o.capacity, .int .i64 o.next, .int .i64 o.dropped, .slice A o.held.length c]
  evs : Evs w av (.slice A o.held.length c) o.held
  off : ∀ k, av k → k ≠ g
section
variable {w w' : World} {av av' : Nat → Prop} {g r c : Nat} {A : Option Addr} {o : OB}
theorem Hb.below (h : Hb w av g A c o) (hb : Below w.heap.size w w') : Hb w' av g A c o := ⟨h.blk.below' hb, h.evs.below hb, h.off⟩
theorem Hb.drew (h : Hb w av g A c o) : Hb w.drew av g A c o := ⟨h.blk, h.evs, h.off⟩
theorem Hb.lt (h : Hb w av g A c o) : g < w.heap.size := h.blk.lt
theorem Hb.alloc (h : Hb w av g A c o) (b : Obj) : Hb (w.alloc b) av g A c o := h.below (below_alloc w b)
theorem Hb.grown (h : Hb w av g A c o) (hg : w.grownBy w' (some r)) (hr : g ≠ r) (hn : ∀ k, av k → k ≠ r) : Hb w' av g A c o :=
  ⟨h.blk.grown hg (by intro e; injection e with e; exact hr e), h.evs.grown hg (fun k e hk => by injection e with e; exact hn k hk e.symm), h.off⟩
theorem Hb.weaken (h : Hb w av g A c o) (ha : ∀ k, av k → k < w.heap.size → av' k) (hn : ∀ k, av' k → k ≠ g) : Hb w av' g A c o := ⟨h.blk, h.evs.weaken ha, hn⟩
theorem Hb.cells (h : Hb w av g A c o) : w.cell? ⟨g, 0, none⟩ = some (.string ⟨o.client.toArray⟩) ∧ w.cell? ⟨g, 1, none⟩ = some (.int .i64 o.capacity) ∧ w.cell? ⟨g, 2, none⟩ = some (.int .i64 o.next) ∧ w.cell? ⟨g, 3, none⟩ = some (.int .i64 o.dropped) ∧ w.cell? ⟨g, 4, none⟩ = some (.slice A o.held.length c) := h.blk.fiveS.1
/-- A whole outbox is stored. -/
theorem Hb.store {cs : Value × Value × Value × Value × Value} (h : Blk w g 27 #[cs.1, cs.2.1, cs.2.2.1, cs.2.2.2.1, cs.2.2.2.2]) {o' : OB} {A' : Option Addr} {c' : Nat} (hv : Evs w av' (.slice A' o'.held.length c') o'.held) (hn : ∀ k, av' k → k ≠ g) :
    Hb (((((w.setCell ⟨g, 0, none⟩ (.string ⟨o'.client.toArray⟩)).setCell ⟨g, 1, none⟩ (.int .i64 o'.capacity)).setCell ⟨g, 2, none⟩ (.int .i64 o'.next)).setCell ⟨g, 3, none⟩ (.int .i64 o'.dropped)).setCell ⟨g, 4, none⟩ (.slice A' o'.held.length c')) av' g A' c' o' ∧
    w.grownBy (((((w.setCell ⟨g, 0, none⟩ (.string ⟨o'.client.toArray⟩)).setCell ⟨g, 1, none⟩ (.int .i64 o'.capacity)).setCell ⟨g, 2, none⟩ (.int .i64 o'.next)).setCell ⟨g, 3, none⟩ (.int .i64 o'.dropped)).setCell ⟨g, 4, none⟩ (.slice A' o'.held.length c')) (some g) := by
  have hs := h.set5S (.string ⟨o'.client.toArray⟩) (.int .i64 o'.capacity) (.int .i64 o'.next) (.int .i64 o'.dropped) (.slice A' o'.held.length c')
  exact ⟨⟨hs.1, hv.grown hs.2 (fun k e hk => by injection e with e; exact hn k hk e.symm), hn⟩, hs.2⟩
theorem Hb.new (w : World) (hv : Evs w av (.slice A o.held.length c) o.held) (hn : ∀ k, av k → k ≠ w.heap.size) :
    Hb (w.alloc (.cells #[.string ⟨o.client.toArray⟩, .int .i64 o.capacity, .int .i64 o.next, .int .i64 o.dropped, .slice A o.held.length c] 27)) av w.heap.size A c o :=
  ⟨Blk.new w _ _, hv.below (below_alloc w _), hn⟩
end

structure A9 where
  kind : UInt8
  num : UInt8
  seqs : List UInt8
def Act9At (w : World) (av : Nat → Prop) (a : Addr) (x : A9) : Prop :=
  At w av a (.int .u8 (x.kind.toNat : Int)) ∧ At w av (a.add 1) (.int .u8 (x.num.toNat : Int)) ∧ ∃ p, At w av (a.add 2) p ∧ Bs w av p x.seqs
theorem act9Keeps : Keeps Act9At := by
  intro w w' av a x h hk
  obtain ⟨h0, h1, p, h3, h4⟩ := h
  exact ⟨h0.keep hk, h1.keep hk, p, h3.keep hk, h4.keep hk⟩
/-- .. in the memory that a law is given, whatever was made behind it. -/
abbrev Acts9 (B : Nat) (w : World) (v : Value) (l : List A9) : Prop := Es 3 Act9At w (fun k => k < B) v l
theorem act_size : (Tryd.prog.info? 36).map (·.size) = some 3 := by kernel_rfl
theorem Act9At.load {w : World} {av : Nat → Prop} {a : Addr} {x : A9} (h : Act9At w av a x) : ∃ A c, Bs w av (.slice A x.seqs.length c) x.seqs ∧ x.seqs.length ≤ c ∧ c ≤ 9223372036854775807 ∧
    (Instr.loadAt 36 (.pointer (some a))).run Tryd.prog w = .ok (.agg #[.int .u8 (x.kind.toNat : Int), .int .u8 (x.num.toNat : Int), .slice A x.seqs.length c]) w := by
  obtain ⟨⟨-, h0⟩, ⟨-, h1⟩, p, ⟨-, h2⟩, hb⟩ := h
  obtain ⟨A, c, rfl, hc1, hc2⟩ := hb.open_
  refine ⟨A, c, hb, hc1, hc2, run_loadAt_cells w a _ [.int .u8 (x.kind.toNat : Int), .int .u8 (x.num.toNat : Int), .slice A x.seqs.length c] _ ?_ Tryd.underlying36 (by rw [act_size]; rfl)⟩
  intro j u hu
  match j, hu with
  | 0, hu => simp only [List.getElem?_cons_zero, Option.some.injEq] at hu; subst hu; rw [show a.add 0 = a by simp [Addr.add]]; exact h0
  | 1, hu => simp only [List.getElem?_cons_succ, List.getElem?_cons_zero, Option.some.injEq] at hu; subst hu; exact h1
  | 2, hu => simp only [List.getElem?_cons_succ, List.getElem?_cons_zero, Option.some.injEq] at hu; subst hu; exact h2
  | j + 3, hu => simp at hu
end Go.Proofs.YtfdobpmmgmnfnaaDoor
