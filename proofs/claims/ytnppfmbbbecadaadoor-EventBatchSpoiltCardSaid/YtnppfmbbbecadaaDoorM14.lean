/- Steps of the proof: EvLaw4, RowLib, Laid, GenSpec, GenLaw, Gen1, Gen2. -/
import Derived.Test.YtnppfmbbbecadaaDoorM09
import Derived.Test.YtnppfmbbbecadaaDoorM13
import Derived.Test.YtnppfmbbbecadaaDoorM05
import Derived.Test.YtnppfmbbbecadaaDoorM01
import Derived.ProofKit
import Derived.ShutString
import Derived.OpenShut
import Derived.Test.YtnppfmbbbecadaaDoorRows
import Derived.Stop.LaidErr
import Derived.LaidMore
import Derived.LaidLaws
import Derived.Stop.Joined
import Derived.Test.YtnppfmbbbecadaaDoorM06
import Derived.Deep.QuietTactic
/- EventReads: Unpack returns the specified batch or error for every text of bytes, also behind a code that is right. -/
namespace Go.Proofs.YtnppfmbbbecadaaDoor
open Go Go.RowKit

theorem unpack_len (key : Int) (b : List UInt8) : (unpackB key b).1.2.2.length ≤ 32 := by
  unfold unpackB
  split
  · simp
  split
  case isFalse => simp
  split
  case isFalse => simp
  split
  case isFalse => simp
  rename_i h
  exact (cbB_ok h).2.2.2.1
set_option maxRecDepth 100000 in
theorem sealed_any (av : Nat → Prop) (v : Value) (b : List UInt8) (w : World) (hv : Bs w av v b) (hl : b.length ≤ 1000000) :
    Calls Tryd.prog 27 #[v] w fun e w' => ∃ x, e = .returned x ∧ Bs w' (w.heap.size ≤ ·) x (b ++ encWord (macN 0 b)) ∧ Below w.heap.size w w' := by
  obtain ⟨A, n, rfl, -, -⟩ := hv.open_
  have HV := Lib.hid hv
  clear hv
  go_enter Tryd.func27, Tryd.ntmps27
  go_wp2_with fail
  refine (seal_any av _ 0 b w HV.out (by omega)).mono ?_
  rintro r w1 ⟨x, rfl, hx, hb⟩
  obtain ⟨A1, n1, rfl, -, -⟩ := hx.open_
  go_wp2_with fail
  go_ret
  exact ⟨_, rfl, by simpa using hx, hb⟩
theorem store_bt (wr : World) (cs : Array Value) : Blk (wr.alloc (.cells cs 35)) wr.heap.size 35 cs ∧ Below wr.heap.size wr (wr.alloc (.cells cs 35)) :=
  ⟨Blk.new wr _ _, below_alloc' wr _⟩
set_option maxHeartbeats 2000000 in
set_option maxRecDepth 100000 in
theorem eventReads_any (av : Nat → Prop) (v : Value) (key : Int) (b : List UInt8) (w : World) (hv : Bs w av v b) (ht : Tab w) :
    Calls Tryd.prog 9 #[v, .int .u64 key] w fun r w' => r = .returned (.bool true) ∧ Below w.heap.size w w' := by
  have HT := Lib.hid ht
  have HV := Lib.hid hv
  obtain ⟨A, n, rfl, hn1, hn2⟩ := hv.open_
  have hB := Below.refl w.heap.size w
  clear ht hv
  go_enter Tryd.func9, Tryd.ntmps9
  go_wp2_with fail
  refine (awake_any _ HT.out).mono ?_
  rintro r wz ⟨rfl, hb⟩
  have hlt := hb.size
  replace hB := below_then hB hB.size hb
  try replace k5 := k5.below' hb
  try replace k7 := k7.below' hb
  try replace k9 := k9.below' hb
  try replace k11 := k11.below' hb
  try replace x5 := x5.below hb
  try replace x7 := x7.below hb
  try replace x9 := x9.below hb
  try replace x11 := x11.below hb
  clear hb
  obtain ⟨wr, rfl⟩ : ∃ z, z = wz := ⟨_, rfl⟩
  by_cases hlong : (2000 : Int) < (b.length : Int)
  · go_wp2_with fail
    go_ret
    exact ⟨rfl, hB⟩
  go_wp2_with fail
  refine (unpack_any av _ key b _ (HV.out.below hB) (by omega) (HT.out.below hB)).mono ?_
  rintro r wz ⟨x, rfl, x5, hb⟩
  obtain ⟨⟨⟨c, f, l⟩, e⟩, hp⟩ : ∃ p, p = unpackB key b := ⟨_, rfl⟩
  have hl32 := unpack_len key b
  rw [← hp] at x5 hl32 ⊢
  simp only at x5 hl32 ⊢
  have HP := Lib.hid hp
  clear hp
  obtain ⟨A5, n5, rfl, -, -⟩ := x5.open_
  have hlt := hb.size
  replace hB := below_then hB hB.size hb
  try replace k5 := k5.below' hb
  try replace k7 := k7.below' hb
  try replace k9 := k9.below' hb
  try replace k11 := k11.below' hb
  try replace x5 := x5.below hb
  try replace x7 := x7.below hb
  try replace x9 := x9.below hb
  try replace x11 := x11.below hb
  clear hb
  obtain ⟨wr, rfl⟩ : ∃ z, z = wz := ⟨_, rfl⟩
  unfold btV
  go_upto_region 6 with fail
  generalize hw9 : World.alloc _ _ = wz
  have hs : Blk wz wr.heap.size 35 #[.string ⟨(c).toArray⟩, .int .i64 f, .slice A5 l.length n5] ∧ Below wr.heap.size wr wz := by rw [← hw9]; exact store_bt wr _
  clear hw9
  obtain ⟨k5, hb⟩ := hs
  generalize wr.heap.size = g5 at k5 ⊢ 
  have hlt := hb.size
  replace hB := below_then hB hB.size hb
  try replace k5 := k5.below' hb
  try replace k7 := k7.below' hb
  try replace k9 := k9.below' hb
  try replace k11 := k11.below' hb
  try replace x5 := x5.below hb
  try replace x7 := x7.below hb
  try replace x9 := x9.below hb
  try replace x11 := x11.below hb
  clear hb
  obtain ⟨wr, rfl⟩ : ∃ z, z = wz := ⟨_, rfl⟩
  go_wp2_with fail
  refine (rUnpack_any av _ key b _ (HV.out.below hB) (by omega)).mono ?_
  rintro r wz ⟨x, rfl, x7, hb⟩
  rw [← HP.out] at x7 ⊢
  simp only at x7 ⊢
  obtain ⟨A7, n7, rfl, -, -⟩ := x7.open_
  have hlt := hb.size
  replace hB := below_then hB hB.size hb
  try replace k5 := k5.below' hb
  try replace k7 := k7.below' hb
  try replace k9 := k9.below' hb
  try replace k11 := k11.below' hb
  try replace x5 := x5.below hb
  try replace x7 := x7.below hb
  try replace x9 := x9.below hb
  try replace x11 := x11.below hb
  clear hb
  obtain ⟨wr, rfl⟩ : ∃ z, z = wz := ⟨_, rfl⟩
  unfold btV
  go_upto_region 7 with fail
  generalize hw9 : World.alloc _ _ = wz
  have hs : Blk wz wr.heap.size 35 #[.string ⟨(c).toArray⟩, .int .i64 f, .slice A7 l.length n7] ∧ Below wr.heap.size wr wz := by rw [← hw9]; exact store_bt wr _
  clear hw9
  obtain ⟨k7, hb⟩ := hs
  generalize wr.heap.size = g7 at k7 ⊢ 
  have hlt := hb.size
  replace hB := below_then hB hB.size hb
  try replace k5 := k5.below' hb
  try replace k7 := k7.below' hb
  try replace k9 := k9.below' hb
  try replace k11 := k11.below' hb
  try replace x5 := x5.below hb
  try replace x7 := x7.below hb
  try replace x9 := x9.below hb
  try replace x11 := x11.below hb
  clear hb
  obtain ⟨wr, rfl⟩ : ∃ z, z = wz := ⟨_, rfl⟩
  obtain ⟨sb, hsb⟩ : ∃ sb, b ++ encWord (macN 0 b) = sb := ⟨_, rfl⟩
  have hsl : sb.length ≤ 2008 := by rw [← hsb, List.length_append, encWord_len]; omega
  have HSB := Lib.hid hsb
  clear hsb
  go_wp2_with fail
  refine (sealed_any av _ b _ (HV.out.below hB) (by omega)).mono ?_
  rintro r wz ⟨x, rfl, hs, hb⟩
  rw [HSB.out] at hs
  obtain ⟨As, ns, rfl, -, -⟩ := hs.open_
  have hlt := hb.size
  replace hB := below_then hB hB.size hb
  try replace k5 := k5.below' hb
  try replace k7 := k7.below' hb
  try replace k9 := k9.below' hb
  try replace k11 := k11.below' hb
  try replace x5 := x5.below hb
  try replace x7 := x7.below hb
  try replace x9 := x9.below hb
  try replace x11 := x11.below hb
  clear hb
  obtain ⟨wr, rfl⟩ : ∃ z, z = wz := ⟨_, rfl⟩
  go_wp2_with fail
  refine (unpack_any _ _ 0 _ _ hs (by omega) (HT.out.below hB)).mono ?_
  rintro r wz ⟨x, rfl, x9, hb⟩
  clear hs
  obtain ⟨⟨⟨c2, f2, l2⟩, e2⟩, hp2⟩ : ∃ p, p = unpackB 0 sb := ⟨_, rfl⟩
  have hl2 := unpack_len 0 sb
  rw [← hp2] at x9 hl2 ⊢
  simp only at x9 hl2 ⊢
  have HP2 := Lib.hid hp2
  clear hp2
  obtain ⟨A9, n9, rfl, -, -⟩ := x9.open_
  have hlt := hb.size
  replace hB := below_then hB hB.size hb
  try replace k5 := k5.below' hb
  try replace k7 := k7.below' hb
  try replace k9 := k9.below' hb
  try replace k11 := k11.below' hb
  try replace x5 := x5.below hb
  try replace x7 := x7.below hb
  try replace x9 := x9.below hb
  try replace x11 := x11.below hb
  clear hb
  obtain ⟨wr, rfl⟩ : ∃ z, z = wz := ⟨_, rfl⟩
  unfold btV
  go_upto_region 8 with fail
  generalize hw9 : World.alloc _ _ = wz
  have hs : Blk wz wr.heap.size 35 #[.string ⟨(c2).toArray⟩, .int .i64 f2, .slice A9 l2.length n9] ∧ Below wr.heap.size wr wz := by rw [← hw9]; exact store_bt wr _
  clear hw9
  obtain ⟨k9, hb⟩ := hs
  generalize wr.heap.size = g9 at k9 ⊢ 
  have hlt := hb.size
  replace hB := below_then hB hB.size hb
  try replace k5 := k5.below' hb
  try replace k7 := k7.below' hb
  try replace k9 := k9.below' hb
  try replace k11 := k11.below' hb
  try replace x5 := x5.below hb
  try replace x7 := x7.below hb
  try replace x9 := x9.below hb
  try replace x11 := x11.below hb
  clear hb
  obtain ⟨wr, rfl⟩ : ∃ z, z = wz := ⟨_, rfl⟩
  go_wp2_with fail
  refine (sealed_any av _ b _ (HV.out.below hB) (by omega)).mono ?_
  rintro r wz ⟨x, rfl, hs, hb⟩
  rw [HSB.out] at hs
  obtain ⟨At, nt, rfl, -, -⟩ := hs.open_
  have hlt := hb.size
  replace hB := below_then hB hB.size hb
  try replace k5 := k5.below' hb
  try replace k7 := k7.below' hb
  try replace k9 := k9.below' hb
  try replace k11 := k11.below' hb
  try replace x5 := x5.below hb
  try replace x7 := x7.below hb
  try replace x9 := x9.below hb
  try replace x11 := x11.below hb
  clear hb
  obtain ⟨wr, rfl⟩ : ∃ z, z = wz := ⟨_, rfl⟩
  go_wp2_with fail
  refine (rUnpack_any _ _ 0 _ _ hs (by omega)).mono ?_
  rintro r wz ⟨x, rfl, x11, hb⟩
  clear hs
  rw [← HP2.out] at x11 ⊢
  simp only at x11 ⊢
  obtain ⟨A11, n11, rfl, -, -⟩ := x11.open_
  have hlt := hb.size
  replace hB := below_then hB hB.size hb
  try replace k5 := k5.below' hb
  try replace k7 := k7.below' hb
  try replace k9 := k9.below' hb
  try replace k11 := k11.below' hb
  try replace x5 := x5.below hb
  try replace x7 := x7.below hb
  try replace x9 := x9.below hb
  try replace x11 := x11.below hb
  clear hb
  obtain ⟨wr, rfl⟩ : ∃ z, z = wz := ⟨_, rfl⟩
  unfold btV
  go_upto_region 9 with fail
  generalize hw9 : World.alloc _ _ = wz
  have hs : Blk wz wr.heap.size 35 #[.string ⟨(c2).toArray⟩, .int .i64 f2, .slice A11 l2.length n11] ∧ Below wr.heap.size wr wz := by rw [← hw9]; exact store_bt wr _
  clear hw9
  obtain ⟨k11, hb⟩ := hs
  generalize wr.heap.size = g11 at k11 ⊢ 
  have hlt := hb.size
  replace hB := below_then hB hB.size hb
  try replace k5 := k5.below' hb
  try replace k7 := k7.below' hb
  try replace k9 := k9.below' hb
  try replace k11 := k11.below' hb
  try replace x5 := x5.below hb
  try replace x7 := x7.below hb
  try replace x9 := x9.below hb
  try replace x11 := x11.below hb
  clear hb
  obtain ⟨wr, rfl⟩ : ∃ z, z = wz := ⟨_, rfl⟩
  obtain ⟨⟨c0, c1, c2'⟩, -⟩ := k5.threeB
  obtain ⟨⟨d0, d1, d2⟩, -⟩ := k7.threeB
  have e1 : (e == e) = true := by simp
  have e3 : (e2 == e2) = true := by simp
  go_wp2_with fail
  refine (sameBatch_any _ _ _ _ c f l _ x5 x7 (by omega)).mono ?_
  rintro r wz ⟨rfl, hb⟩
  clear c0 c1 c2' d0 d1 d2
  have hlt := hb.size
  replace hB := below_then hB hB.size hb
  try replace k5 := k5.below' hb
  try replace k7 := k7.below' hb
  try replace k9 := k9.below' hb
  try replace k11 := k11.below' hb
  try replace x5 := x5.below hb
  try replace x7 := x7.below hb
  try replace x9 := x9.below hb
  try replace x11 := x11.below hb
  clear hb
  obtain ⟨wr, rfl⟩ : ∃ z, z = wz := ⟨_, rfl⟩
  obtain ⟨⟨c0, c1, c2'⟩, -⟩ := k9.threeB
  obtain ⟨⟨d0, d1, d2⟩, -⟩ := k11.threeB
  go_wp2_with fail
  refine (sameBatch_any _ _ _ _ c2 f2 l2 _ x9 x11 (by omega)).mono ?_
  rintro r wz ⟨rfl, hb⟩
  clear c0 c1 c2' d0 d1 d2
  have hlt := hb.size
  replace hB := below_then hB hB.size hb
  try replace k5 := k5.below' hb
  try replace k7 := k7.below' hb
  try replace k9 := k9.below' hb
  try replace k11 := k11.below' hb
  try replace x5 := x5.below hb
  try replace x7 := x7.below hb
  try replace x9 := x9.below hb
  try replace x11 := x11.below hb
  clear hb
  obtain ⟨wr, rfl⟩ : ∃ z, z = wz := ⟨_, rfl⟩
  go_wp2_with fail
  go_ret
  exact ⟨rfl, hB⟩
end Go.Proofs.YtnppfmbbbecadaaDoor

/- Arguments that came in, opened for the walks of the laws. -/
namespace Go.Proofs.YtnppfmbbbecadaaDoor
open Go Go.RowKit Go.ChangeShapes Go.WideShapes

theorem int_range_u8 {n : Int} (h : (Lit.int .u8 n).wf = true) : 0 ≤ n ∧ n ≤ 255 := by
  simp [Lit.wf, IntKind.min, IntKind.max, IntKind.bits, IntKind.signed] at h
  omega
theorem int_range_i8 {n : Int} (h : (Lit.int .i8 n).wf = true) : -128 ≤ n ∧ n ≤ 127 := by
  simp [Lit.wf, IntKind.min, IntKind.max, IntKind.bits, IntKind.signed] at h
  omega
theorem int_range_i16 {n : Int} (h : (Lit.int .i16 n).wf = true) : -32768 ≤ n ∧ n ≤ 32767 := by
  simp [Lit.wf, IntKind.min, IntKind.max, IntKind.bits, IntKind.signed] at h
  omega
theorem int_range_u16 {n : Int} (h : (Lit.int .u16 n).wf = true) : 0 ≤ n ∧ n ≤ 65535 := by
  simp [Lit.wf, IntKind.min, IntKind.max, IntKind.bits, IntKind.signed] at h
  omega
theorem int_range_i64 {n : Int} (h : (Lit.int .i64 n).wf = true) : -9223372036854775808 ≤ n ∧ n ≤ 9223372036854775807 := by
  simp [Lit.wf, IntKind.min, IntKind.max, IntKind.bits, IntKind.signed] at h
  omega
theorem int_range_u64 {n : Int} (h : (Lit.int .u64 n).wf = true) : 0 ≤ n ∧ n ≤ 18446744073709551615 := by
  simp [Lit.wf, IntKind.min, IntKind.max, IntKind.bits, IntKind.signed] at h
  omega
/-- An argument of type []byte reads as bytes that lie in old memory. -/
theorem open_bytes {H : Type} {enc : TypeId × Value → H} {P : Program} {W : World} {base : Nat} {t e : TypeId} {v : Value} {d : DataW H} {p : List MemPlace} (ht : P.underlying t = some (.slice e)) (he : P.underlying e = some (.int .u8)) (hC : P.cellsOf e = 1)
    (hv : Value.okWide P W .any base t v) (h : DataW.Trod enc P W 0 (fun _ => true) true t v d p) : ∃ bs : List UInt8, Bs W (fun k => k < W.heap.size) v bs := by
  obtain ⟨a, len, cap, rfl⟩ := okWide_slice ht hv
  obtain ⟨fuel, hf⟩ := h
  rcases open_ints ht he hC hf with ⟨hcs, _⟩ | ⟨x, l, c, zs, hcs, _, hl, hm, hz, _, hcell, hwz⟩
  · simp [Value.cells] at hcs
    obtain ⟨rfl, rfl, rfl⟩ := hcs
    exact ⟨[], Bs.nil _ _⟩
  · simp [Value.cells] at hcs
    obtain ⟨rfl, rfl, rfl⟩ := hcs
    have hzl : zs.length = cap := by simpa using hz
    have hlen : ((zs.take len).map fun n => UInt8.ofNat n.toNat).length = len := by rw [List.length_map, List.length_take]; omega
    refine ⟨(zs.take len).map fun n => UInt8.ofNat n.toNat, some x, cap, by rw [hlen], by rw [hlen]; exact hl, hm, by simp, (fun h => by cases h), fun hn => ⟨x, rfl, ?_, fun j u hu => ?_⟩⟩
    · rw [hlen] at hn
      have := World.block_lt_of_cell? W _ (hcell 0 (by omega))
      rwa [block_of_add] at this
    · have hj : j < len := by
        have := (List.getElem?_eq_some_iff.1 hu).1
        simp only [List.length_map, List.length_take] at this
        omega
      rw [hcell j (by omega), ← hu]
      rw [List.getElem?_map, List.getElem?_map, List.getElem?_take, if_pos hj, List.getElem?_eq_getElem (by omega), List.getD_eq_getElem?_getD, List.getElem?_eq_getElem (by omega)]
      simp only [Option.map_some, Option.getD_some, Option.some.injEq]
      have := int_range_u8 (hwz _ (List.getElem_mem (show j < zs.length by omega)))
      unfold bv
      rw [UInt8.toNat_ofNat']
      congr 1
      omega
end Go.Proofs.YtnppfmbbbecadaaDoor

/- What the rows list: the library's tables, as start-up code lays them; what that gives a walk; a world that meets it. -/
namespace Go.Proofs.YtnppfmbbbecadaaDoor
open Go Go.RowKit Go.ChangeShapes Go.WideShapes

abbrev laidL : List (String × DataW Unit) := [("unicode.White_Space", Rows.laid_unicode_White_Space), ("strings.asciiSpace", Rows.laid_strings_asciiSpace)]
theorem door_met (os : Go.Os) (args : Array Value) : laidMetH Tryd.prog laidL ((World.doorLaid Tryd.prog 33 os).forCall (fun _ _ => 0) ⟨#[], args, []⟩).memory :=
  laidMetH_of_parts3 (fuel := 8) (laidMet_of_run' 8 (by kernel_rfl) (by kernel_rfl)) (by kernel_rfl) (by kernel_rfl)
theorem tab_data : (Rows.laid_strings_asciiSpace : DataW Unit) = Lib.tabData .u8 Lib.asciiSpaceTab := by kernel_rfl
theorem tab_type : (Tryd.prog.globals[0]?).map (·.type) = some 92 := by kernel_rfl
theorem tab_of_laid {W : World} (h : laidMetH Tryd.prog laidL W) : Tab W := by
  rw [MakeChecks.laidMetH_plain _ _ _ (by kernel_rfl)] at h
  have h2 := h.tail
  rw [tab_data] at h2
  exact Lib.tabIs_of_head tab_named tab_type Tryd.underlying92 Tryd.underlying5 (by kernel_rfl) (by kernel_rfl) h2
end Go.Proofs.YtnppfmbbbecadaaDoor

/- flagstonedata.Events and flagstonelaw28.batch, as plain functions, and what is true of what they make. No program is named here. -/
namespace Go.Proofs.YtnppfmbbbecadaaDoor
open Go Go.RowKit

/-- A number below n is drawn from the bytes. -/
def nxt (n : Nat) : List UInt8 → Nat × List UInt8
  | [] => (0, [])
  | c :: r => (c.toNat % n, r)
theorem nxt_lt {n : Nat} (h : 0 < n) (bs : List UInt8) : (nxt n bs).1 < n := by
  cases bs with
  | nil => exact h
  | cons c r => exact Nat.mod_lt _ h
def gIds : List (List UInt8) := [[97, 110, 110], [98, 111, 98], [99, 97, 116], [100, 97, 110], [101, 118, 101], [102, 97, 121]]
def gId (n : Nat) : List UInt8 := gIds.getD (n % 6) []
def gClis : List (List UInt8) := [[97, 112, 112], [116, 97, 98], [119, 101, 98]]
def gCli (n : Nat) : List UInt8 := gClis.getD (n % 3) []
def gExps : List (List UInt8) := [[98, 108, 117, 101], [103, 114, 101, 101, 110], [102, 97, 115, 116], [115, 108, 111, 119]]
def gExp (n : Nat) : List UInt8 := gExps.getD (n % 2) []
def gNams : List (List UInt8) := [[98, 117, 121], [118, 105, 115, 105, 116]]
def gNam (n : Nat) : List UInt8 := gNams.getD (n % 2) []
/-- Where the maker of events stands. -/
structure GS where
  bs : List UInt8
  time : Nat
  sq : List Nat
  last : Int
def gStep1 (st cl : Nat) (last : Int) : Nat := if st = 0 ∧ (cl : Int) < last then 1 else st
def gKind (e : EV) (x : Nat) (id : Nat) (b : List UInt8) : EV × List UInt8 :=
  if x < 3 then
    ({ e with kind := 1, name := gExp ((nxt 8 b).1 / 7), arm := 1 + (((nxt 10 (nxt 8 b).2).1 % 9 % 2 : Nat) : Int) + (((nxt 12 (nxt 10 (nxt 8 b).2).2).1 / 11 : Nat) : Int), version := 1 + (((nxt 5 (nxt 12 (nxt 10 (nxt 8 b).2).2).2).1 / 4 : Nat) : Int) },
      (nxt 5 (nxt 12 (nxt 10 (nxt 8 b).2).2).2).2)
  else if x = 3 then ({ e with kind := 3, other := if gId (nxt 6 b).1 = gId id then gId ((nxt 6 b).1 + 1) else gId (nxt 6 b).1 }, (nxt 6 b).2)
  else ({ e with kind := 2, name := gNam ((nxt 3 b).1 / 2), value := (((nxt 40 (nxt 3 b).2).1 : Nat) : Int) - 4 }, (nxt 40 (nxt 3 b).2).2)
def gTime (g : GS) : Nat := g.time + gStep1 (nxt 4 g.bs).1 (nxt 3 (nxt 4 g.bs).2).1 g.last
def gSeq (g : GS) : List Nat := g.sq.set (nxt 3 (nxt 4 g.bs).2).1 (g.sq.getD (nxt 3 (nxt 4 g.bs).2).1 0 + 1)
/-- Behind the client: the id, the kind and what belongs to it. -/
def gRest (cl t s : Nat) (b : List UInt8) : EV × List UInt8 :=
  gKind ⟨gCli cl, (s : Int), 0, (t : Int), gId (nxt 6 b).1, [], [], 0, 0, 0⟩ (nxt 8 (nxt 6 b).2).1 (nxt 6 b).1 (nxt 8 (nxt 6 b).2).2
def gStep (g : GS) : EV × GS :=
  ((gRest (nxt 3 (nxt 4 g.bs).2).1 (gTime g) (g.sq.getD (nxt 3 (nxt 4 g.bs).2).1 0 + 1) (nxt 3 (nxt 4 g.bs).2).2).1,
    ⟨(gRest (nxt 3 (nxt 4 g.bs).2).1 (gTime g) (g.sq.getD (nxt 3 (nxt 4 g.bs).2).1 0 + 1) (nxt 3 (nxt 4 g.bs).2).2).2, gTime g, gSeq g, ((nxt 3 (nxt 4 g.bs).2).1 : Int)⟩)
/-- At most n more events. -/
def gEvs : Nat → GS → List EV
  | 0, _ => []
  | n + 1, g => if g.bs = [] then [] else (gStep g).1 :: gEvs n (gStep g).2
def gZero (l : List UInt8) : GS := ⟨l, 0, [0, 0, 0], -1⟩
def eventsB (l : List UInt8) : List EV := gEvs 60 (gZero l)
theorem gEvs_len : ∀ n g, (gEvs n g).length ≤ n
  | 0, g => by simp [gEvs]
  | n + 1, g => by
    rw [gEvs]
    split
    · simp
    · have := gEvs_len n (gStep g).2
      simp; omega
theorem eventsB_len (l : List UInt8) : (eventsB l).length ≤ 60 := gEvs_len 60 _

theorem gId_key (n : Nat) : keyB (gId n) = true := by
  unfold gId
  rcases (by omega : n % 6 = 0 ∨ n % 6 = 1 ∨ n % 6 = 2 ∨ n % 6 = 3 ∨ n % 6 = 4 ∨ n % 6 = 5) with h | h | h | h | h | h <;> rw [h] <;> decide +kernel
theorem gCli_key (n : Nat) : keyB (gCli n) = true := by
  unfold gCli
  rcases (by omega : n % 3 = 0 ∨ n % 3 = 1 ∨ n % 3 = 2) with h | h | h <;> rw [h] <;> decide +kernel
theorem gExp_key (n : Nat) : keyB (gExp n) = true := by
  unfold gExp
  rcases (by omega : n % 2 = 0 ∨ n % 2 = 1) with h | h <;> rw [h] <;> decide +kernel
theorem gNam_key (n : Nat) : keyB (gNam n) = true := by
  unfold gNam
  rcases (by omega : n % 2 = 0 ∨ n % 2 = 1) with h | h <;> rw [h] <;> decide +kernel
theorem gId_next (n m : Nat) (h : gId n = gId m) : gId (n + 1) ≠ gId m := by
  unfold gId at *
  rcases (by omega : n % 6 = 0 ∨ n % 6 = 1 ∨ n % 6 = 2 ∨ n % 6 = 3 ∨ n % 6 = 4 ∨ n % 6 = 5) with h1 | h1 | h1 | h1 | h1 | h1 <;>
  rcases (by omega : m % 6 = 0 ∨ m % 6 = 1 ∨ m % 6 = 2 ∨ m % 6 = 3 ∨ m % 6 = 4 ∨ m % 6 = 5) with h2 | h2 | h2 | h2 | h2 | h2 <;>
  rw [h1, h2] at h <;> first
    | (exfalso; revert h; decide)
    | (rw [h2]; first | rw [show (n + 1) % 6 = 0 by omega] | rw [show (n + 1) % 6 = 1 by omega] | rw [show (n + 1) % 6 = 2 by omega] | rw [show (n + 1) % 6 = 3 by omega] | rw [show (n + 1) % 6 = 4 by omega] | rw [show (n + 1) % 6 = 5 by omega]
       decide)
theorem gCli_inj {n m : Nat} (hn : n < 3) (hm : m < 3) (h : gCli n = gCli m) : n = m := by
  unfold gCli at h
  rcases (by omega : n = 0 ∨ n = 1 ∨ n = 2) with rfl | rfl | rfl <;>
  rcases (by omega : m = 0 ∨ m = 1 ∨ m = 2) with rfl | rfl | rfl <;> first | rfl | (exfalso; revert h; decide)
/-- What the made events are like. -/
theorem gRest_ok {cl t s : Nat} (b : List UInt8) (ht : t ≤ 1000) (h1 : 1 ≤ s) (hs : s ≤ 1000) :
    evCheck (gRest cl t s b).1 = 0 ∧ (gRest cl t s b).1.client = gCli cl ∧ (gRest cl t s b).1.seq = (s : Int) ∧ (gRest cl t s b).1.time = (t : Int) := by
  unfold gRest gKind
  generalize nxt 6 b = p
  obtain ⟨i, b1⟩ := p
  generalize hx : nxt 8 b1 = p
  obtain ⟨x, b2⟩ := p
  split
  · refine ⟨?_, rfl, rfl, rfl⟩
    have q1 := nxt_lt (n := 10) (by omega) (nxt 8 b2).2
    have q2 := nxt_lt (n := 12) (by omega) (nxt 10 (nxt 8 b2).2).2
    have q3 := nxt_lt (n := 5) (by omega) (nxt 12 (nxt 10 (nxt 8 b2).2).2).2
    generalize (nxt 10 (nxt 8 b2).2).1 = a1 at *
    generalize (nxt 12 (nxt 10 (nxt 8 b2).2).2).1 = a2 at *
    generalize (nxt 5 (nxt 12 (nxt 10 (nxt 8 b2).2).2).2).1 = a3 at *
    have k1 := gCli_key cl
    have k2 := gId_key i
    have k3 := gExp_key ((nxt 8 b2).1 / 7)
    unfold evCheck withinB maxSeq maxNum
    simp only [k1, k2, k3]
    simp
    rw [if_neg (by omega), if_neg (by omega)]
  split
  · refine ⟨?_, rfl, rfl, rfl⟩
    have k1 := gCli_key cl
    have k2 := gId_key i
    generalize (nxt 6 b2).1 = a1 at *
    have k3 : keyB (if gId a1 = gId i then gId (a1 + 1) else gId a1) = true ∧ (if gId a1 = gId i then gId (a1 + 1) else gId a1) ≠ gId i := by
      split
      · exact ⟨gId_key _, gId_next _ _ (by assumption)⟩
      · exact ⟨gId_key _, by assumption⟩
    generalize (if gId a1 = gId i then gId (a1 + 1) else gId a1) = o at *
    unfold evCheck withinB maxSeq maxNum
    simp only [k1, k2, k3.1]
    simp [k3.2]
    omega
  · refine ⟨?_, rfl, rfl, rfl⟩
    have q1 := nxt_lt (n := 40) (by omega) (nxt 3 b2).2
    generalize (nxt 40 (nxt 3 b2).2).1 = a1 at *
    have k1 := gCli_key cl
    have k2 := gId_key i
    have k3 := gNam_key ((nxt 3 b2).1 / 2)
    unfold evCheck withinB maxSeq maxNum
    simp only [k1, k2, k3]
    simp
    rw [if_neg (by omega), if_neg (by omega)]
end Go.Proofs.YtnppfmbbbecadaaDoor

/- What is true of the made events: each is without errors, those of one client ascend from 1. No program is named here. -/
namespace Go.Proofs.YtnppfmbbbecadaaDoor
open Go Go.RowKit

theorem ok_eb {e : EV} (h : evCheck e = 0) : EB e := by
  obtain ⟨h1, h2, h3, h4⟩ := ok_texts h
  unfold evCheck withinB maxSeq maxNum at h
  simp only [Bool.and_eq_true, decide_eq_true_eq] at h
  repeat' (split at h; · exact absurd h (by decide))
  rename_i a1 a2 a3 a4 a5 a6 a7 a8
  have hk : I64 e.kind := by unfold I64; omega
  have hs : I64 e.seq := by unfold I64; omega
  have ht : I64 e.time := by unfold I64; omega
  have hv : I64 e.version ∧ I64 e.arm ∧ I64 e.value := by
    unfold I64
    rcases (by omega : e.kind = 1 ∨ e.kind = 2 ∨ e.kind = 3) with h | h | h <;> simp [h] at a4 a5 a6 a7 a8 <;> omega
  exact ⟨by omega, by omega, by omega, by omega, hs, hk, ht, hv.1, hv.2.1, hv.2.2⟩
theorem gStep_ok {g : GS} {m : Nat} (hm : m < 60) (hs : ∀ x ∈ g.sq, x ≤ m) (ht : g.time ≤ 4 * m) :
    evCheck (gStep g).1 = 0 ∧ (gStep g).1.client = gCli (nxt 3 (nxt 4 g.bs).2).1 ∧ (gStep g).1.seq = ((g.sq.getD (nxt 3 (nxt 4 g.bs).2).1 0 + 1 : Nat) : Int) := by
  have h1 := nxt_lt (n := 4) (by omega) g.bs
  have h2 : gStep1 (nxt 4 g.bs).1 (nxt 3 (nxt 4 g.bs).2).1 g.last ≤ 3 := by unfold gStep1; split <;> omega
  have h3 : gTime g ≤ 1000 := by unfold gTime; omega
  have h4 : g.sq.getD (nxt 3 (nxt 4 g.bs).2).1 0 ≤ m := by
    generalize (nxt 3 (nxt 4 g.bs).2).1 = j
    by_cases hj : j < g.sq.length
    · rw [List.getD_eq_getElem?_getD, List.getElem?_eq_getElem hj]; exact hs _ (List.getElem_mem _)
    · rw [List.getD_eq_getElem?_getD, List.getElem?_eq_none (by omega)]; simp
  obtain ⟨a, b, c, -⟩ := gRest_ok (cl := (nxt 3 (nxt 4 g.bs).2).1) (nxt 3 (nxt 4 g.bs).2).2 h3 (s := g.sq.getD (nxt 3 (nxt 4 g.bs).2).1 0 + 1) (by omega) (by omega)
  exact ⟨a, b, c⟩
theorem gStep_next {g : GS} {m : Nat} (hs : ∀ x ∈ g.sq, x ≤ m) (ht : g.time ≤ 4 * m) (hl : g.sq.length = 3) :
    (∀ x ∈ (gStep g).2.sq, x ≤ m + 1) ∧ (gStep g).2.time ≤ 4 * (m + 1) ∧ (gStep g).2.sq.length = 3 := by
  have h1 := nxt_lt (n := 4) (by omega) g.bs
  have h2 : gStep1 (nxt 4 g.bs).1 (nxt 3 (nxt 4 g.bs).2).1 g.last ≤ 3 := by unfold gStep1; split <;> omega
  refine ⟨?_, ?_, ?_⟩
  · intro x hx
    have hx : x ∈ g.sq.set (nxt 3 (nxt 4 g.bs).2).1 (g.sq.getD (nxt 3 (nxt 4 g.bs).2).1 0 + 1) := hx
    rcases List.mem_or_eq_of_mem_set hx with h | h
    · have := hs x h; omega
    · generalize (nxt 3 (nxt 4 g.bs).2).1 = j at h
      have h4 : g.sq.getD j 0 ≤ m := by
        by_cases hj : j < g.sq.length
        · rw [List.getD_eq_getElem?_getD, List.getElem?_eq_getElem hj]; exact hs _ (List.getElem_mem _)
        · rw [List.getD_eq_getElem?_getD, List.getElem?_eq_none (by omega)]; simp
      omega
  · show gTime g ≤ _
    unfold gTime; omega
  · show (g.sq.set _ _).length = 3
    rw [List.length_set]; exact hl
theorem gEvs_ok : ∀ (n : Nat) (g : GS) (m : Nat), n + m ≤ 60 → (∀ x ∈ g.sq, x ≤ m) → g.time ≤ 4 * m → g.sq.length = 3 → ∀ e ∈ gEvs n g, evCheck e = 0
  | 0, g, m, _, _, _, _, e, he => by simp [gEvs] at he
  | n + 1, g, m, hm, hs, ht, hl, e, he => by
    rw [gEvs] at he
    split at he
    · cases he
    rcases List.mem_cons.1 he with rfl | he
    · exact (gStep_ok (by omega) hs ht).1
    · obtain ⟨a, b, c⟩ := gStep_next hs ht hl
      exact gEvs_ok n _ (m + 1) (by omega) a b c e he
theorem eventsB_ok {l : List UInt8} : ∀ e ∈ eventsB l, evCheck e = 0 := gEvs_ok 60 (gZero l) 0 (by omega) (by simp [gZero]) (by simp [gZero]) rfl
def ofCli (j : Nat) (l : List EV) : List EV := l.filter fun e => e.client == gCli j
theorem gEvs_cb {j : Nat} (hj : j < 3) (f : Int) : ∀ (n : Nat) (g : GS) (m : Nat) (last : Option Int), n + m ≤ 60 → (∀ x ∈ g.sq, x ≤ m) → g.time ≤ 4 * m → g.sq.length = 3 →
    f ≤ ((g.sq.getD j 0 : Nat) : Int) + 1 → (∀ q, last = some q → q ≤ ((g.sq.getD j 0 : Nat) : Int)) → cbGo (gCli j) f last (ofCli j (gEvs n g)) = 0
  | 0, g, m, last, _, _, _, _, _, _ => by simp [gEvs, ofCli, cbGo]
  | n + 1, g, m, last, hm, hs, ht, hl, hf, hq => by
    obtain ⟨h1, h2, h3⟩ := gStep_ok (by omega) hs ht
    obtain ⟨a, b, c⟩ := gStep_next hs ht hl
    rw [gEvs]
    split
    · simp [ofCli, cbGo]
    have hcl := nxt_lt (n := 3) (by omega) (nxt 4 g.bs).2
    have hsq : (gStep g).2.sq = g.sq.set (nxt 3 (nxt 4 g.bs).2).1 (g.sq.getD (nxt 3 (nxt 4 g.bs).2).1 0 + 1) := rfl
    generalize (gStep g).1 = e at *
    generalize (gStep g).2 = g' at *
    generalize (nxt 3 (nxt 4 g.bs).2).1 = cl at *
    by_cases hc : cl = j
    · subst hc
      have hg : g'.sq.getD cl 0 = g.sq.getD cl 0 + 1 := by
        rw [hsq, List.getD_eq_getElem?_getD, List.getElem?_set_self (by omega)]; rfl
      have e1 : ofCli cl (e :: gEvs n g') = e :: ofCli cl (gEvs n g') := by
        unfold ofCli; rw [List.filter_cons, if_pos (by rw [h2]; simp)]
      rw [e1, cbGo, if_pos h1, if_pos h2, if_pos, h3]
      · exact gEvs_cb hj f n g' (m + 1) _ (by omega) a b c (by rw [hg]; omega) (fun q hq => by injection hq with hq; rw [hg]; omega)
      · refine ⟨by omega, ?_⟩
        cases last with
        | none => rfl
        | some q => have := hq q rfl; simp only [afterB, decide_eq_true_eq]; omega
    · have hg : g'.sq.getD j 0 = g.sq.getD j 0 := by
        rw [hsq, List.getD_eq_getElem?_getD, List.getElem?_set_ne hc, ← List.getD_eq_getElem?_getD]
      have e1 : ofCli j (e :: gEvs n g') = ofCli j (gEvs n g') := by
        unfold ofCli; rw [List.filter_cons, if_neg (by rw [h2]; intro h; exact hc (gCli_inj hcl hj (beq_iff_eq.1 h)))]
      rw [e1]
      exact gEvs_cb hj f n g' (m + 1) _ (by omega) a b c (by rw [hg]; omega) (fun q hq' => by rw [hg]; exact hq q hq')
theorem cbGo_take {c : List UInt8} {f : Int} : ∀ {l : List EV} {last : Option Int} (k : Nat), cbGo c f last l = 0 → cbGo c f last (l.take k) = 0
  | [], _, _, _ => by simp [cbGo]
  | e :: r, last, 0, _ => by simp [cbGo]
  | e :: r, last, k + 1, h => by
    rw [cbGo] at h
    rw [List.take_succ_cons, cbGo]
    split at h
    case isFalse h1 => exact absurd h h1
    rw [if_pos (by assumption)]
    split at h
    case isFalse => cases h
    rw [if_pos (by assumption)]
    split at h
    case isFalse => cases h
    rw [if_pos (by assumption)]
    exact cbGo_take k h
/-- The events of client j among made ones, 32 at most. -/
def batchL (l : List UInt8) (j : Nat) : List EV := (ofCli j (eventsB l)).take 32
theorem batchL_len (l : List UInt8) (j : Nat) : (batchL l j).length ≤ 32 := by unfold batchL; rw [List.length_take]; omega
theorem batchL_cb (l : List UInt8) {j : Nat} (hj : j < 3) : cbB (gCli j) 1 (batchL l j) = 0 := by
  rw [cbB_go (gCli_key j) (by omega) (by omega) (batchL_len l j)]
  refine cbGo_take 32 (gEvs_cb hj 1 60 (gZero l) 0 none (by omega) (by simp [gZero]) (by simp [gZero]) rfl (by omega) (fun q h => by cases h))
theorem batchL_ok {l : List UInt8} {j : Nat} : ∀ e ∈ batchL l j, evCheck e = 0 ∧ e ∈ eventsB l := by
  intro e he
  have h1 := List.mem_of_mem_take he
  have h2 := (List.mem_filter.1 h1).1
  exact ⟨eventsB_ok e h2, h2⟩
theorem gEvs_head {j : Nat} (hj : j < 3) : ∀ (n : Nat) (g : GS) (m : Nat), n + m ≤ 60 → (∀ x ∈ g.sq, x ≤ m) → g.time ≤ 4 * m → g.sq.length = 3 →
    ∀ e r, ofCli j (gEvs n g) = e :: r → e.seq = ((g.sq.getD j 0 : Nat) : Int) + 1
  | 0, g, m, _, _, _, _, e, r, h => by simp [gEvs, ofCli] at h
  | n + 1, g, m, hm, hs, ht, hl, e0, r, h => by
    obtain ⟨h1, h2, h3⟩ := gStep_ok (by omega) hs ht
    obtain ⟨a, b, c⟩ := gStep_next hs ht hl
    rw [gEvs] at h
    split at h
    · simp [ofCli] at h
    have hcl := nxt_lt (n := 3) (by omega) (nxt 4 g.bs).2
    have hsq : (gStep g).2.sq = g.sq.set (nxt 3 (nxt 4 g.bs).2).1 (g.sq.getD (nxt 3 (nxt 4 g.bs).2).1 0 + 1) := rfl
    generalize (gStep g).1 = e at *
    generalize (gStep g).2 = g' at *
    generalize (nxt 3 (nxt 4 g.bs).2).1 = cl at *
    by_cases hc : cl = j
    · subst hc
      have e1 : ofCli cl (e :: gEvs n g') = e :: ofCli cl (gEvs n g') := by
        unfold ofCli; rw [List.filter_cons, if_pos (by rw [h2]; simp)]
      rw [e1] at h
      injection h with h _
      subst h
      rw [h3]; omega
    · have hg : g'.sq.getD j 0 = g.sq.getD j 0 := by
        rw [hsq, List.getD_eq_getElem?_getD, List.getElem?_set_ne hc, ← List.getD_eq_getElem?_getD]
      have e1 : ofCli j (e :: gEvs n g') = ofCli j (gEvs n g') := by
        unfold ofCli; rw [List.filter_cons, if_neg (by rw [h2]; intro h; exact hc (gCli_inj hcl hj (beq_iff_eq.1 h)))]
      rw [e1] at h
      rw [← hg]
      exact gEvs_head hj n g' (m + 1) (by omega) a b c e0 r h
theorem batchL_head {l : List UInt8} {j : Nat} (hj : j < 3) {e : EV} {r : List EV} (h : batchL l j = e :: r) : e.seq = 1 := by
  unfold batchL at h
  cases hq : ofCli j (eventsB l) with
  | nil => rw [hq] at h; simp at h
  | cons e0 r0 =>
    rw [hq, List.take_succ_cons] at h
    injection h with h _
    subst h
    have := gEvs_head hj 60 (gZero l) 0 (by omega) (by simp [gZero]) (by simp [gZero]) rfl _ _ hq
    rw [this]
    simp only [gZero]
    rcases (by omega : j = 0 ∨ j = 1 ∨ j = 2) with rfl | rfl | rfl <;> rfl
end Go.Proofs.YtnppfmbbbecadaaDoor

/- flagstonedata: the source of numbers, ids and names. -/
namespace Go.Proofs.YtnppfmbbbecadaaDoor
open Go Go.RowKit

def svG (s : List UInt8) : Value := .string ⟨s.toArray⟩
/-- The source at block g: the bytes that are left; all bytes lie in blocks below B, g does not. -/
def Src (B : Nat) (w : World) (g : Nat) (bs : List UInt8) : Prop :=
  B ≤ g ∧ ∃ v L k, Blk w g 58 #[v, .int .i64 ((k : Nat) : Int)] ∧ Bs w (· < B) v L ∧ k ≤ L.length ∧ bs = L.drop k
section
variable {B g : Nat} {w w' : World} {bs : List UInt8}
theorem Src.below (h : Src B w g bs) (hb : Below w.heap.size w w') : Src B w' g bs := by
  obtain ⟨h0, v, L, k, h1, h2, h3, h4⟩ := h
  exact ⟨h0, v, L, k, h1.below' hb, h2.below hb, h3, h4⟩
theorem Src.grown (h : Src B w g bs) {r : Nat} (hb : w.grownBy w' (some r)) (hr : g ≠ r) (hB : B ≤ r) : Src B w' g bs := by
  obtain ⟨h0, v, L, k, h1, h2, h3, h4⟩ := h
  exact ⟨h0, v, L, k, h1.grown hb (by intro e; injection e with e; exact hr e), h2.grown hb (fun q e => by injection e with e; omega), h3, h4⟩
theorem Src.drew (h : Src B w g bs) : Src B w.drew g bs := h
theorem Src.lt (h : Src B w g bs) : g < w.heap.size := by
  obtain ⟨h0, v, L, k, h1, _⟩ := h
  exact h1.lt
theorem Src.chg {S : Nat → Prop} (h : Src B w g bs) (hc : ∀ k, k < w.heap.size → ¬ S k → w'.heap[k]? = w.heap[k]?) (hg : ¬ S g) (hS : ∀ k, k < B → ¬ S k) : Src B w' g bs := by
  obtain ⟨h0, v, L, k, h1, h2, h3, h4⟩ := h
  exact ⟨h0, v, L, k, (hc g h1.lt hg).trans h1, h2.keep fun q hq hl => hc q hl (hS q hq), h3, h4⟩
end
theorem nxt_nil (n : Nat) : nxt n [] = (0, []) := rfl
theorem nxt_drop {n k : Nat} {L : List UInt8} (h : k < L.length) : nxt n (L.drop k) = ((L[k]).toNat % n, L.drop (k + 1)) := by
  rw [List.drop_eq_getElem_cons h]; rfl
set_option maxRecDepth 100000 in
theorem more_any (B g : Nat) (bs : List UInt8) (w : World) (h : Src B w g bs) :
    Calls Tryd.prog 32 #[.pointer (some ⟨g, 0, none⟩)] w fun e w' => e = .returned (.bool (!bs.isEmpty)) ∧ ∃ n, w' = w.drewN n := by
  obtain ⟨h0, v, L, k, hk, hb, hkl, rfl⟩ := h
  obtain ⟨A, c, rfl, hc1, hc2⟩ := hb.open_
  have e0 := hk.cell 0
  have e1 := hk.cell 1
  have hr : (!(L.drop k).isEmpty) = decide (k < L.length) := by
    rw [Bool.eq_iff_iff]
    simp [List.isEmpty_iff]
  rw [hr]
  clear hr hk hb
  go_enter Tryd.func32, Tryd.ntmps32
  go_upto_region 1 with fail
  go_quiet (fail)
  go_wp2_with fail
  go_ret
  exact ⟨rfl, _, rfl⟩
set_option maxHeartbeats 1000000 in
set_option maxRecDepth 100000 in
theorem next_any (B g n : Nat) (bs : List UInt8) (w : World) (hn : 0 < n) (hn2 : n ≤ 256) (h : Src B w g bs) :
    Calls Tryd.prog 33 #[.pointer (some ⟨g, 0, none⟩), .int .i64 (n : Int)] w fun e w' => e = .returned (.int .i64 ((nxt n bs).1 : Int)) ∧ Src B w' g (nxt n bs).2 ∧ w.grownBy w' (some g) := by
  obtain ⟨h0, v, L, k, hk, hb, hkl, rfl⟩ := h
  obtain ⟨A, c, rfl, hc1, hc2⟩ := hb.open_
  have e0 := hk.cell 0
  have e1 := hk.cell 1
  have f1 := hk.frozen 1
  have hgl := hk.lt
  by_cases hlt : k < L.length
  · rw [nxt_drop hlt]
    obtain ⟨ad, rfl, hav, hcell⟩ := hb.at_ hlt
    have hx := (L[k]).toNat_lt
    generalize hxe : L[k].toNat = x at *
    have HXE := Lib.hid hxe
    clear hcell hxe
    go_enter Tryd.func33, Tryd.ntmps33
    go_upto_region 1 with fail
    go_quiet (fail)
    go_upto_region 4 with fail
    have hs := Blk.setOnlyS ⟨hk.drewN nq, World.grownBy.refl _ (some g)⟩ (i := 1) (.int .i64 ((k : Int) + 1)) rfl
    have hb2 := (hb.drewN nq).grown hs.2 (fun q e => by injection e with e; omega)
    have hg2 := only_then (row := some g) (drewn_only w nq _) hs.2
    generalize ((w.drewN nq).setCell ⟨g, 1, none⟩ (.int .i64 ((k : Int) + 1))) = w2 at *
    clear e0 e1 f1 hk hb
    have hk2 := hs.1
    have e0 := hk2.cell 0
    have e1 := hk2.cell 1
    obtain ⟨ad', hae, -, hcell⟩ := hb2.at_ hlt
    injection hae with hae
    subst hae
    have hck := hcell k hlt
    rw [HXE.out] at hck
    clear hcell
    refine wp_region_tree (.path [[.calm 0 false], [.calm 1 true, .calm 2 false, .calm 3 false, .calm 4 false], [.calm 5 true, .calm 6 false, .calm 7 false], [.calm 8 true, .calm 9 false, .calm 10 false], [.calm 11 true, .calm 12 false], [.calm 13 true, .calm 14 false]]) none (by as_aux_lemma => kernel_rfl) (by as_aux_lemma => kernel_rfl) (by as_aux_lemma => kernel_rfl) ?_
    show wpSegs _ _ _ _ _ _ _ _ _
    refine seg_plain rfl rfl (fun K hK => ?_)
    simp only [List.filterMap_cons, List.filterMap_nil, itAt, List.getElem?_toArray, List.getElem?_cons_zero]
    show wpList _ _ _ [_] _ _
    go_wp2_with fail
    refine EndQ.normal (hK.go ?_)
    clear hK K
    refine seg_chk rfl rfl (fun K hK => ?_)
    simp only [List.filterMap_cons, List.filterMap_nil, itAt, List.getElem?_toArray, List.getElem?_cons_succ, List.getElem?_cons_zero]
    show wpList _ _ _ [_, _, _, _] _ _
    go_wp2_with fail
    refine EndQ.normal (hK.go ?_)
    clear hK K
    refine seg_chk rfl rfl (fun K hK => ?_)
    simp only [List.filterMap_cons, List.filterMap_nil, itAt, List.getElem?_toArray, List.getElem?_cons_succ, List.getElem?_cons_zero]
    show wpList _ _ _ [_, _, _] _ _
    go_wp2_with fail
    refine EndQ.normal (hK.go ?_)
    clear hK K
    refine seg_chk rfl rfl (fun K hK => ?_)
    simp only [List.filterMap_cons, List.filterMap_nil, itAt, List.getElem?_toArray, List.getElem?_cons_succ, List.getElem?_cons_zero]
    show wpList _ _ _ [_, _, _] _ _
    go_wp2_with fail
    refine EndQ.normal (hK.go ?_)
    clear hK K
    refine seg_chk rfl rfl (fun K hK => ?_)
    simp only [List.filterMap_cons, List.filterMap_nil, itAt, List.getElem?_toArray, List.getElem?_cons_succ, List.getElem?_cons_zero]
    show wpList _ _ _ [_, _] _ _
    go_wp2_with fail
    refine EndQ.normal (hK.go ?_)
    clear hK K
    refine seg_chk rfl rfl (fun K hK => ?_)
    simp only [List.filterMap_cons, List.filterMap_nil, itAt, List.getElem?_toArray, List.getElem?_cons_succ, List.getElem?_cons_zero]
    show wpList _ _ _ [_, _] _ _
    go_wp2_with fail
    refine EndQ.normal (hK.go ?_)
    clear hK K
    refine seg_end ?_
    go_wp2_with fail
    go_ret
    refine ⟨?_, ⟨h0, _, L, k + 1, hk2.drew, hb2, by omega, rfl⟩, only_drew hg2⟩
    rfl
  · go_enter Tryd.func33, Tryd.ntmps33
    go_upto_region 1 with fail
    go_quiet (fail)
    go_wp2_with fail
    go_ret
    have hd : L.drop k = [] := List.drop_eq_nil_of_le (by omega)
    rw [hd]
    refine ⟨rfl, ⟨h0, _, L, k, ?_, hb, hkl, hd.symm⟩, ?_⟩
    · exact hk.drewN _
    · exact drewn_only _ _ _
end Go.Proofs.YtnppfmbbbecadaaDoor

/- flagstonedata.Ids, Id, Experiments, Names. -/
namespace Go.Proofs.YtnppfmbbbecadaaDoor
open Go Go.RowKit

set_option maxRecDepth 100000 in
theorem gIds_any (w : World) :
    Calls Tryd.prog 62 #[] w fun e w' => e = .returned (.slice (some ⟨w.heap.size, 0, none⟩) 6 6) ∧ Blk w' w.heap.size 9 ((gIds.map svG).toArray) ∧ Below w.heap.size w w' := by
  go_enter Tryd.func62, Tryd.ntmps62
  go_wp2
  go_ret
  exact ⟨rfl, Blk.new w _ _, (Below.refl w.heap.size w).alloc (Nat.le_refl _) _⟩
set_option maxHeartbeats 1000000 in
set_option maxRecDepth 100000 in
theorem gId_any (n : Nat) (hn : n ≤ 255) (w : World) :
    Calls Tryd.prog 34 #[.int .i64 (n : Int)] w fun e w' => e = .returned (.string ⟨(gId n).toArray⟩) ∧ Below w.heap.size w w' := by
  go_enter Tryd.func34, Tryd.ntmps34
  go_wp2_with fail
  refine (gIds_any w).mono ?_
  rintro e w1 ⟨rfl, hk1, hb1⟩
  go_wp2_with fail
  refine (gIds_any w1).mono ?_
  rintro e w2 ⟨rfl, -, hb2⟩
  have hk2 := hk1.below' hb2
  have hB := below_then hb1 hb1.size hb2
  have hc : w2.cell? ⟨w.heap.size, n % 6, none⟩ = some (.string ⟨(gId n).toArray⟩) := by
    rw [hk2.cell]
    unfold gId
    rcases (by omega : n % 6 = 0 ∨ n % 6 = 1 ∨ n % 6 = 2 ∨ n % 6 = 3 ∨ n % 6 = 4 ∨ n % 6 = 5) with h | h | h | h | h | h <;> rw [h] <;> rfl
  clear hk1 hb1 hk2 hb2
  have hm : n % 6 < 6 := by omega
  go_wp2_with fail
  go_ret
  exact ⟨rfl, hB⟩
set_option maxRecDepth 100000 in
theorem exps_any (w : World) :
    Calls Tryd.prog 35 #[] w fun e w' => e = .returned (.slice (some ⟨w.heap.size, 0, none⟩) 4 4) ∧ Blk w' w.heap.size 9 ((gExps.map svG).toArray) ∧ Below w.heap.size w w' := by
  go_enter Tryd.func35, Tryd.ntmps35
  go_wp2
  go_ret
  exact ⟨rfl, Blk.new w _ _, (Below.refl w.heap.size w).alloc (Nat.le_refl _) _⟩
set_option maxRecDepth 100000 in
theorem names_any (w : World) :
    Calls Tryd.prog 36 #[] w fun e w' => e = .returned (.slice (some ⟨w.heap.size, 0, none⟩) 2 2) ∧ Blk w' w.heap.size 9 ((gNams.map svG).toArray) ∧ Below w.heap.size w w' := by
  go_enter Tryd.func36, Tryd.ntmps36
  go_wp2
  go_ret
  exact ⟨rfl, Blk.new w _ _, (Below.refl w.heap.size w).alloc (Nat.le_refl _) _⟩
end Go.Proofs.YtnppfmbbbecadaaDoor
