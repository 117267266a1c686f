/- digest.Mac and flagstoneref2.Mac of one field, in the domain of batches. -/
import Derived.Test.YtnppfmbbbecadaaDoorFrame
import Derived.Test.YtnppfmbbbecadaaDoorDigest3
import Derived.Test.YtnppfmbbbecadaaDoorRefDig3
namespace Go.Proofs.YtnppfmbbbecadaaDoor
open Go Go.RowKit

def macI (key : Int) (b : List UInt8) : Int := sumI key 101 (frameB b)
theorem xor_u64_range (a b : Int) : 0 ≤ bits .xor .u64 a b ∧ bits .xor .u64 a b < 18446744073709551616 := by
  show 0 ≤ IntKind.u64.wrap _ ∧ IntKind.u64.wrap _ < 18446744073709551616
  rw [IntKind.wrap_u64]
  omega
theorem macI_range (key : Int) (b : List UInt8) : 0 ≤ macI key b ∧ macI key b < 18446744073709551616 := xor_u64_range _ _
def macN (key : Int) (b : List UInt8) : Nat := (macI key b).toNat
theorem macN_eq (key : Int) (b : List UInt8) : ((macN key b : Nat) : Int) = macI key b := Int.toNat_of_nonneg (macI_range key b).1

set_option maxRecDepth 100000 in
theorem mac_any (av : Nat → Prop) (v : Value) (b : List UInt8) (key : Int) (ga c : Nat) (w : World) (hc : w.cell? ⟨ga, 0, none⟩ = some v) (hv : Bs w av v b) (hl : b.length ≤ 4000000000) :
    Calls Tryd.prog 40 #[.int .u64 key, .int .u64 100, .slice (some ⟨ga, 0, none⟩) 1 c] w fun e w' => e = .returned (.int .u64 ((macN key b : Nat) : Int)) ∧ Below w.heap.size w w' := by
  go_enter Tryd.func40, Tryd.ntmps40
  go_wp2_with fail
  refine (frame_any av v b ga c w hc hv hl).mono ?_
  rintro e w1 ⟨v1, rfl, hown, hb⟩
  obtain h1 := Bs.of_own (av := fun _ => True) hown (fun _ _ _ _ => trivial)
  go_wp2_with fail
  refine (sum_any _ _ (frameB b) key 101 w1 h1 (by rw [frameB_len]; omega)).mono ?_
  rintro e w2 ⟨rfl, hb2⟩
  have hm : sumI key 101 (frameB b) = ((macN key b : Nat) : Int) := (macN_eq key b).symm
  rw [hm]
  clear hm
  go_wp2_with fail
  go_ret
  exact ⟨rfl, below_then hb hb.size hb2⟩
set_option maxRecDepth 100000 in
theorem rMac_any (av : Nat → Prop) (v : Value) (b : List UInt8) (key : Int) (ga c : Nat) (w : World) (hc : w.cell? ⟨ga, 0, none⟩ = some v) (hv : Bs w av v b) (hl : b.length ≤ 4000000000) :
    Calls Tryd.prog 52 #[.int .u64 key, .int .u64 100, .slice (some ⟨ga, 0, none⟩) 1 c] w fun e w' => e = .returned (.int .u64 ((macN key b : Nat) : Int)) ∧ Below w.heap.size w w' := by
  go_enter Tryd.func52, Tryd.ntmps52
  go_wp2_with fail
  refine (rFrame_any av v b ga c w hc hv hl).mono ?_
  rintro e w1 ⟨v1, rfl, hown, hb⟩
  obtain h1 := Bs.of_own (av := fun _ => True) hown (fun _ _ _ _ => trivial)
  go_wp2_with fail
  refine (rSum_any _ _ (frameB b) key 101 w1 h1 (by rw [frameB_len]; omega)).mono ?_
  rintro e w2 ⟨rfl, hb2⟩
  have hm : sumI key 101 (frameB b) = ((macN key b : Nat) : Int) := (macN_eq key b).symm
  rw [hm]
  clear hm
  go_wp2_with fail
  go_ret
  exact ⟨rfl, below_then hb hb.size hb2⟩
end Go.Proofs.YtnppfmbbbecadaaDoor
