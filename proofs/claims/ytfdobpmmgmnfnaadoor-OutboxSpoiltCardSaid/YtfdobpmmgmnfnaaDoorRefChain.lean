/- flagstoneref28.Check: the tests behind the keys (printed by wip/gen_rcheck.py). -/
import Derived.Test.YtfdobpmmgmnfnaaDoorCheckChain
namespace Go.Proofs.YtfdobpmmgmnfnaaDoor
open Go Go.RowKit

def rchain1 (e : EV) : Int := (if withinB e.seq 1 1073741824 = false then 3 else (if withinB e.time 0 1099511627776 = false then 3 else (if withinB e.version 0 1099511627776 = false then 3 else (if withinB e.arm 1 8 = false then 3 else (if ¬ e.other = [] then 15 else (if (e.value != 0) = true then 15 else 0))))))
theorem check_rchain1 {e : EV} (hk : e.kind = 1) (h1 : keyB e.client = true) (h2 : keyB e.id = true) (h3 : keyB e.name = true) : evCheck e = rchain1 e := by
  simp only [evCheck, rchain1, hk, h1, h2, h3, ite_or2]
  refine ite3 ?_ ?_ ?_ ?_ <;> simp [withinB, maxSeq, maxNum] <;> grind
def rchain2 (e : EV) : Int := (if withinB e.seq 1 1073741824 = false then 3 else (if withinB e.time 0 1099511627776 = false then 3 else (if withinB e.value (-1099511627776) 1099511627776 = false then 3 else (if ¬ e.other = [] then 15 else (if (e.version != 0) = true then 15 else (if (e.arm != 0) = true then 15 else 0))))))
theorem check_rchain2 {e : EV} (hk : e.kind = 2) (h1 : keyB e.client = true) (h2 : keyB e.id = true) (h3 : keyB e.name = true) : evCheck e = rchain2 e := by
  simp only [evCheck, rchain2, hk, h1, h2, h3, ite_or2]
  refine ite3 ?_ ?_ ?_ ?_ <;> simp [withinB, maxSeq, maxNum] <;> grind
def rchain3 (e : EV) : Int := (if withinB e.seq 1 1073741824 = false then 3 else (if withinB e.time 0 1099511627776 = false then 3 else (if (e.version != 0) = true then 15 else (if (e.arm != 0) = true then 15 else (if (e.value != 0) = true then 15 else (if ¬ e.name = [] then 15 else (if (e.other == e.id) = true then 15 else 0)))))))
theorem check_rchain3 {e : EV} (hk : e.kind = 3) (h1 : keyB e.client = true) (h2 : keyB e.id = true) (h3 : keyB e.other = true) : evCheck e = rchain3 e := by
  simp only [evCheck, rchain3, hk, h1, h2, h3, ite_or2]
  refine ite3 ?_ ?_ ?_ ?_ <;> simp [withinB, maxSeq, maxNum] <;> grind
end Go.Proofs.YtfdobpmmgmnfnaaDoor
