/- flagstoneref28.SameEvents: lists of events are held against each other. -/
import Derived.Test.YtfdobpmmgmnfnaaDoorOb
import Derived.Laws.StructEq
import Derived.Test.YtfdobpmmgmnfnaaDoorFork
namespace Go.Proofs.YtfdobpmmgmnfnaaDoor
open Go Go.RowKit

theorem ev_struct : Tryd.prog.underlying 40 = some (.struct (Tryd.prog.fieldsOf 40)) := by kernel_rfl
theorem ev_held : Tryd.prog.stoodInHeld 40 = false := by kernel_rfl
theorem ev_guard : Tryd.prog.eqGuardType Tryd.prog.depth 40 = false := by kernel_rfl
theorem ev_fields : ((Tryd.prog.fieldsOf 40).toList.map fun f => (f.name, f.type, f.offset)) = [("Client", 9, 0), ("Seq", 3, 1), ("Kind", 3, 2), ("Time", 3, 3), ("Id", 9, 4), ("Name", 9, 5), ("Other", 9, 6), ("Version", 3, 7), ("Arm", 3, 8), ("Value", 3, 9)] := by kernel_rfl
theorem eqFields_step {P : Program} {w : World} {d : Nat} {xs ys : Array Value} {f : Field} {fs : List Field} {n : String} {t : TypeId} {off : Nat} {x y : Value} {r r' : Bool} (hf : (f.name, f.type, f.offset) = (n, t, off)) (hn : n ≠ "_") (hagg : (isAgg t).run P w = .ok false w)
    (hx : xs[off]? = some x) (hy : ys[off]? = some y) (he : (Op.equalIn d t x y).run P w = .ok r w) (hr : (Op.eqFields d xs ys fs).run P w = .ok r' w) : (Op.eqFields d xs ys (f :: fs)).run P w = .ok (r && r') w := by
  simp only [Prod.mk.injEq] at hf
  obtain ⟨h1, h2, h3⟩ := hf
  simp only [Op.eqFields, h1, h2, h3, ne_eq, hn, not_false_eq_true, if_true]
  cases r <;> simp [part, Sem.run_bind, hagg, hx, hy, he, hr]
theorem run_equal_ev (a b : EV) (w : World) (d : Nat) : (Op.equalIn (d + 2) 40 (evV a) (evV b)).run Tryd.prog w = .ok (decide (a = b)) w := by
  unfold evV
  rw [run_equalIn_struct w (d + 1) _ _ _ ev_struct ev_held]
  have hf := ev_fields
  generalize (Tryd.prog.fieldsOf 40).toList = fs at hf
  have hgs : (isAgg 9).run Tryd.prog w = .ok false w := Tryd.isAgg9 w
  have hgi : (isAgg 3).run Tryd.prog w = .ok false w := Tryd.isAgg3 w
  have es : ∀ x y : List UInt8, (Op.equalIn (d + 1) 9 (.string ⟨x.toArray⟩) (.string ⟨y.toArray⟩)).run Tryd.prog w = .ok (decide (x = y)) w := fun x y => by
    rw [run_equalIn_string w d _ _ _ Tryd.underlying9, ByteArray.toList_eq, ByteArray.toList_eq]
    have hxy : (x == y) = decide (x = y) := by by_cases h : x = y <;> simp [h]
    rw [hxy]
  have ei : ∀ x y : Int, (Op.equalIn (d + 1) 3 (.int .i64 x) (.int .i64 y)).run Tryd.prog w = .ok (decide (x = y)) w := fun x y => by
    rw [run_equalIn_int w d _ .i64 .i64 _ _ Tryd.underlying3]
    rfl
  have hcond : decide (a = b) = (decide (a.client = b.client) && (decide (a.seq = b.seq) && (decide (a.kind = b.kind) && (decide (a.time = b.time) && (decide (a.id = b.id) && (decide (a.name = b.name) && (decide (a.other = b.other) && (decide (a.version = b.version) && (decide (a.arm = b.arm) && (decide (a.value = b.value) && true)))))))))) := by
    cases a; cases b
    simp [EV.mk.injEq, Bool.decide_and]
  rw [hcond]
  rcases fs with _ | ⟨f0, _ | ⟨f1, _ | ⟨f2, _ | ⟨f3, _ | ⟨f4, _ | ⟨f5, _ | ⟨f6, _ | ⟨f7, _ | ⟨f8, _ | ⟨f9, _ | ⟨f10, fs⟩⟩⟩⟩⟩⟩⟩⟩⟩⟩⟩
  all_goals simp only [List.map_cons, List.map_nil, List.cons.injEq, and_true, and_false, reduceCtorEq] at hf
  obtain ⟨h0, h1, h2, h3, h4, h5, h6, h7, h8, h9⟩ := hf
  refine eqFields_step h0 (by decide) hgs rfl rfl (es _ _) ?_
  refine eqFields_step h1 (by decide) hgi rfl rfl (ei _ _) ?_
  refine eqFields_step h2 (by decide) hgi rfl rfl (ei _ _) ?_
  refine eqFields_step h3 (by decide) hgi rfl rfl (ei _ _) ?_
  refine eqFields_step h4 (by decide) hgs rfl rfl (es _ _) ?_
  refine eqFields_step h5 (by decide) hgs rfl rfl (es _ _) ?_
  refine eqFields_step h6 (by decide) hgs rfl rfl (es _ _) ?_
  refine eqFields_step h7 (by decide) hgi rfl rfl (ei _ _) ?_
  refine eqFields_step h8 (by decide) hgi rfl rfl (ei _ _) ?_
  refine eqFields_step h9 (by decide) hgi rfl rfl (ei _ _) ?_
  rfl
theorem run_neq_ev (a b : EV) (w : World) (x y : Operand) : (do eqGuard .neq 40 x y (evV a) (evV b); binOp .neq 40 (evV a) (evV b)).run Tryd.prog w = .ok (.bool (!decide (a = b))) w := by
  have h := run_equal_ev a b w 9998
  unfold evV at h ⊢
  rw [Sem.run_bind, run_eqGuard_agg w .neq _ x y _ _ ev_guard]
  simp only [Result.andThen_ok]
  rw [run_neq_struct w]
  rw [h]
  rfl
theorem wpList_neq_ev {ops : Array Oper} {rest : List Oper} {o : Oper} {a : Act} {w : World} {Q : Exit → Act → World → Prop} (hgd : o.guard = none) (x y : Operand) (rt : TypeId)
    (ho : o.op = .binOp .neq 40 x y rt) (e1 e2 : EV) (hx : a.eval x = evV e1) (hy : a.eval y = evV e2) (h : wpList Tryd.prog ops Q rest (a.put o.dst (.bool (!decide (e1 = e2)))) w) : wpList Tryd.prog ops Q (o :: rest) a w := by
  refine wpList_plain hgd fun _ hK => ?_
  unfold Oper.wp execOp
  simp only [ho, hx, hy]
  rw [Sem.run_bind, run_neq_ev e1 e2 w x y]
  exact hK _ _ h
end Go.Proofs.YtfdobpmmgmnfnaaDoor
