/- event.Check: the tests behind the keys (printed by wip/gen_check.py). -/
import Derived.Test.YtfdobpmmgmnfnaaDoorEv
namespace Go.Proofs.YtfdobpmmgmnfnaaDoor
open Go Go.RowKit

theorem ite_or2 {α : Type} {p q : Prop} [Decidable p] [Decidable q] (c r : α) : (if p then c else if q then c else r) = if p ∨ q then c else r := by
  by_cases hp : p
  · simp [hp]
  · simp [hp]
theorem ite3 {k a b a' b' : Prop} [Decidable k] [Decidable a] [Decidable b] [Decidable a'] [Decidable b'] {g : Prop} [Decidable g] (hk : ¬ k) (hg : ¬ g) (ha : a ↔ a') (hb : b ↔ b') :
    (if k then (7 : Int) else if g then 6 else if a then 3 else if b then 15 else 0) = if a' then 3 else if b' then 15 else 0 := by
  rw [if_neg hk, if_neg hg]
  by_cases h : a
  · rw [if_pos h, if_pos (ha.1 h)]
  · rw [if_neg h, if_neg (fun e => h (ha.2 e))]
    by_cases h2 : b
    · rw [if_pos h2, if_pos (hb.1 h2)]
    · rw [if_neg h2, if_neg (fun e => h2 (hb.2 e))]

/-- The tests behind the keys, in the code's order. -/
def chain1 (e : EV) : Int := (if e.seq < 1 then 3 else (if 1073741824 < e.seq then 3 else (if e.time < 0 then 3 else (if 1099511627776 < e.time then 3 else (if e.version < 0 then 3 else (if 1099511627776 < e.version then 3 else (if e.arm < 1 then 3 else (if 8 < e.arm then 3 else (if ¬ e.other = [] then 15 else (if (e.value != 0) = true then 15 else 0))))))))))
theorem check_chain1 {e : EV} (hk : e.kind = 1) (h1 : keyB e.client = true) (h2 : keyB e.id = true) (h3 : keyB e.name = true) : evCheck e = chain1 e := by
  simp only [evCheck, chain1, hk, h1, h2, h3, ite_or2]
  refine ite3 ?_ ?_ ?_ ?_ <;> simp [withinB, maxSeq, maxNum] <;> grind
/-- The tests behind the keys, in the code's order. -/
def chain2 (e : EV) : Int := (if e.seq < 1 then 3 else (if 1073741824 < e.seq then 3 else (if e.time < 0 then 3 else (if 1099511627776 < e.time then 3 else (if e.value < -1099511627776 then 3 else (if 1099511627776 < e.value then 3 else (if ¬ e.other = [] then 15 else (if (e.version != 0) = true then 15 else (if (e.arm != 0) = true then 15 else 0)))))))))
theorem check_chain2 {e : EV} (hk : e.kind = 2) (h1 : keyB e.client = true) (h2 : keyB e.id = true) (h3 : keyB e.name = true) : evCheck e = chain2 e := by
  simp only [evCheck, chain2, hk, h1, h2, h3, ite_or2]
  refine ite3 ?_ ?_ ?_ ?_ <;> simp [withinB, maxSeq, maxNum] <;> grind
/-- The tests behind the keys, in the code's order. -/
def chain3 (e : EV) : Int := (if e.seq < 1 then 3 else (if 1073741824 < e.seq then 3 else (if e.time < 0 then 3 else (if 1099511627776 < e.time then 3 else (if ¬ e.name = [] then 15 else (if (e.version != 0) = true then 15 else (if (e.arm != 0) = true then 15 else (if (e.value != 0) = true then 15 else (if (e.other == e.id) = true then 15 else 0)))))))))
theorem check_chain3 {e : EV} (hk : e.kind = 3) (h1 : keyB e.client = true) (h2 : keyB e.id = true) (h3 : keyB e.other = true) : evCheck e = chain3 e := by
  simp only [evCheck, chain3, hk, h1, h2, h3, ite_or2]
  refine ite3 ?_ ?_ ?_ ?_ <;> simp [withinB, maxSeq, maxNum] <;> grind
end Go.Proofs.YtfdobpmmgmnfnaaDoor
