/- Steps of the proof: Insert. -/
import Derived.Test.YthhfliokjbbbbaaGreatDoorM08
import Derived.Test.YthhfliokjbbbbaaGreatDoorM04
import Derived.Laws.Externs
/- slices.Insert, one element, at a row of one's own. -/
namespace Go.Proofs.YthhfliokjbbbbaaGreatDoor
open Go Go.RowKit

theorem ty_of {P : Program} {t e : TypeId} {size bytes : Nat} (h1 : P.underlying t = some (.slice e)) (h2 : (P.info? e).map (fun i => (i.zero.map (fun z => (z.cells.size, z.cells.toList.all Value.oneCell')), i.size, i.bytes)) = some (some (size, true), size, bytes)) (hb : bytes ≤ 1000) (hp : 0 < size) : Ty P t e size := by
 refine ⟨h1, hp, ?_⟩
 cases hi : P.info? e with
 | none => rw [hi] at h2; cases h2
 | some i =>
   rw [hi] at h2
   simp only [Option.map_some, Option.some.injEq, Prod.mk.injEq] at h2
   obtain ⟨h3, h4, h5⟩ := h2
   obtain ⟨z, hz, h6⟩ := Option.map_eq_some_iff.1 h3
   simp only [Prod.mk.injEq] at h6
   exact ⟨i, z, rfl, hz, h4, by omega, h6.1, h6.2⟩
theorem tyI : Ty Tryz.prog 33 3 1 := ty_of (bytes := 8) Tryz.underlying33 (by kernel_rfl) (by omega) (by omega)
theorem tyE : Ty Tryz.prog 26 38 10 := ty_of (bytes := 112) Tryz.underlying26 (by kernel_rfl) (by omega) (by omega)
theorem tyS : Ty Tryz.prog 25 35 3 := ty_of (bytes := 48) Tryz.underlying25 (by kernel_rfl) (by omega) (by omega)
def insC (size i : Nat) (xs ys : List Value) : List Value := xs.take (i * size) ++ ys ++ xs.drop (i * size)
theorem Blk.shp {w : World} {g : Nat} {t : TypeId} {cs : Array Value} (h : Blk w g t cs) : w.shape? g = some (t, cs.size) := by
 unfold Blk at h
 simp [World.shape?, h]
theorem ins_cells {w : World} {g off size i n : Nat} {e : TypeId} {xs ys : List Value} {cur : Array Value} (hk : Blk w g e cur) (hsz : off + (n + 1) * size ≤ cur.size) (hxl : xs.length = n * size) (hys : ys.length = size) (hi : i < n)
   (hc : ∀ j u, xs[j]? = some u → w.cell? ⟨g, off + j, none⟩ = some u) : ∀ j u, (insC size i xs ys)[j]? = some u → ((w.setCells g (off + (i + 1) * size) (xs.drop (i * size))).setCells g (off + i * size) ys).cell? ⟨g, off + j, none⟩ = some u := by
 intro j u hu
 have e1 : (i + 1) * size = i * size + size := Nat.succ_mul i size
 have e2 : (n + 1) * size = n * size + size := Nat.succ_mul n size
 have e3 : i * size + size ≤ n * size := by have := Nat.mul_le_mul_right size (show i + 1 ≤ n from hi); omega
 have hdl : (xs.drop (i * size)).length = n * size - i * size := by rw [List.length_drop, hxl]
 obtain ⟨cur1, hk1, hs1⟩ := setCells_blk (xs.drop (i * size)) (off + (i + 1) * size) w g e cur hk
 have htl : (xs.take (i * size)).length = i * size := by rw [List.length_take]; omega
 unfold insC at hu
 by_cases h1 : j < i * size
 · rw [List.append_assoc, List.getElem?_append_left (by omega), List.getElem?_take, if_pos h1] at hu
   rw [World.cell?_setCells_out _ _ _ _ _ (fun _ _ => .inl (by show off + j < off + i * size; omega)), World.cell?_setCells_out _ _ _ _ _ (fun _ _ => .inl (by show off + j < off + (i + 1) * size; omega))]
   exact hc j u hu
 by_cases h2 : j < i * size + size
 · rw [List.append_assoc, List.getElem?_append_right (by omega), htl, List.getElem?_append_left (by omega)] at hu
   obtain ⟨hj2, hu2⟩ := List.getElem?_eq_some_iff.1 hu
   have := World.cell?_setCells_in g ys (off + i * size) (w.setCells g (off + (i + 1) * size) (xs.drop (i * size))) (fun q hq => by
     rw [hk1.cell, Array.getElem?_eq_getElem (by omega)]
     rfl) (j - i * size) hj2
   rw [show off + i * size + (j - i * size) = off + j by omega] at this
   rw [this, hu2]
 · rw [List.getElem?_append_right (by rw [List.length_append]; omega)] at hu
   have hidx : j - (xs.take (i * size) ++ ys).length = j - (i * size + size) := by rw [List.length_append, htl, hys]
   rw [hidx] at hu
   obtain ⟨hj2, hu2⟩ := List.getElem?_eq_some_iff.1 hu
   rw [World.cell?_setCells_out _ _ _ _ _ (fun _ _ => .inr (by show off + i * size + ys.length ≤ off + j; omega))]
   have := World.cell?_setCells_in g (xs.drop (i * size)) (off + (i + 1) * size) w (fun q hq => by
     rw [hk.cell, Array.getElem?_eq_getElem (by omega)]
     rfl) (j - (i * size + size)) hj2
   rw [show off + (i + 1) * size + (j - (i * size + size)) = off + j by omega] at this
   rw [this, hu2]
theorem grow_cells {w1 : World} {g size i n : Nat} {e : TypeId} {xs ys : List Value} {row : Array Value} (hk : Blk w1 g e row) (hsz : (n + 1) * size ≤ row.size) (hxl : xs.length = n * size) (hys : ys.length = size) (hi : i < n)
   (hc : ∀ (j : Nat) (u : Value), (xs.take (i * size))[j]? = some u → row[j]? = some u) : ∀ j u, (insC size i xs ys)[j]? = some u → ((w1.setCells g (i * size) ys).drew.setCells g ((i + 1) * size) (xs.drop (i * size))).cell? ⟨g, 0 + j, none⟩ = some u := by
 intro j u hu
 rw [Nat.zero_add]
 have e1 : (i + 1) * size = i * size + size := Nat.succ_mul i size
 have e2 : (n + 1) * size = n * size + size := Nat.succ_mul n size
 have e3 : i * size + size ≤ n * size := by have := Nat.mul_le_mul_right size (show i + 1 ≤ n from hi); omega
 have hdl : (xs.drop (i * size)).length = n * size - i * size := by rw [List.length_drop, hxl]
 obtain ⟨cur1, hk1, hs1⟩ := setCells_blk ys (i * size) w1 g e row hk
 have htl : (xs.take (i * size)).length = i * size := by rw [List.length_take]; omega
 unfold insC at hu
 by_cases h1 : j < i * size
 · rw [List.append_assoc, List.getElem?_append_left (by omega)] at hu
   rw [World.cell?_setCells_out _ _ _ _ _ (fun _ _ => .inl (by show j < (i + 1) * size; omega))]
   show (w1.setCells g (i * size) ys).cell? ⟨g, j, none⟩ = some u
   rw [World.cell?_setCells_out _ _ _ _ _ (fun _ _ => .inl (by show j < i * size; omega)), hk.cell]
   exact hc j u hu
 by_cases h2 : j < i * size + size
 · rw [List.append_assoc, List.getElem?_append_right (by omega), htl, List.getElem?_append_left (by omega)] at hu
   obtain ⟨hj2, hu2⟩ := List.getElem?_eq_some_iff.1 hu
   rw [World.cell?_setCells_out _ _ _ _ _ (fun _ _ => .inl (by show j < (i + 1) * size; omega))]
   show (w1.setCells g (i * size) ys).cell? ⟨g, j, none⟩ = some u
   have := World.cell?_setCells_in g ys (i * size) w1 (fun q hq => by
     rw [hk.cell, Array.getElem?_eq_getElem (by omega)]
     rfl) (j - i * size) hj2
   rw [show i * size + (j - i * size) = j by omega] at this
   rw [this, hu2]
 · rw [List.getElem?_append_right (by rw [List.length_append]; omega)] at hu
   have hidx : j - (xs.take (i * size) ++ ys).length = j - (i * size + size) := by rw [List.length_append, htl, hys]
   rw [hidx] at hu
   obtain ⟨hj2, hu2⟩ := List.getElem?_eq_some_iff.1 hu
   have := World.cell?_setCells_in g (xs.drop (i * size)) ((i + 1) * size) (w1.setCells g (i * size) ys).drew (fun q hq => by
     rw [hk1.drew.cell, Array.getElem?_eq_getElem (by omega)]
     rfl) (j - (i * size + size)) hj2
   rw [show (i + 1) * size + (j - (i * size + size)) = j by omega] at this
   rw [this, hu2]
theorem insC_len {size i n : Nat} {xs ys : List Value} (hxl : xs.length = n * size) (hys : ys.length = size) (hi : i ≤ n) : (insC size i xs ys).length = (n + 1) * size := by
 have e2 : (n + 1) * size = n * size + size := Nat.succ_mul n size
 have e3 : i * size ≤ n * size := Nat.mul_le_mul_right size hi
 unfold insC
 rw [List.length_append, List.length_append, List.length_take, List.length_drop, hys]
 omega
set_option maxHeartbeats 4000000 in
set_option maxRecDepth 100000 in
theorem insertI_any (B gv n i : Nat) (v : Value) (xs ys : List Value) (w : World) (hv : Ro w B 1 3 v n xs) (hi : i ≤ n) (hn : n ≤ 100000) (hk : Blk w gv 3 ys.toArray) (hys : ys.length = 1)
   (hx1 : ∀ u ∈ xs, u.oneCell' = true) (hy1 : ∀ u ∈ ys, u.oneCell' = true) (hne : ∀ k, v.ownBlock = some k → k ≠ gv) (hB : B ≤ w.heap.size) :
   Calls Tryz.prog 104 #[v, .int .i64 (i : Int), .slice (some ⟨gv, 0, none⟩) 1 1] w fun e w' => ∃ v', e = .returned v' ∧ Ro w' B 1 3 v' (n + 1) (insC 1 i xs ys) ∧ Chg (fun k => v.ownBlock = some k) w w' ∧ ∀ k, v'.ownBlock = some k → v.ownBlock = some k ∨ w.heap.size ≤ k := by
 have HV := Lib.hid hv
 have HNE := Lib.hid hne
 have HX := Lib.hid hx1
 have HY := Lib.hid hy1
 have hxl := hv.len
 have hyS : Sl w (fun _ => True) 1 (.slice (some ⟨gv, 0, none⟩) 1 1) 1 ys := by
   refine ⟨_, _, rfl, Nat.le_refl _, by unfold maxLen; omega, by omega, (fun h => by cases h), fun _ => ⟨_, rfl, trivial, fun j u hu => ?_⟩⟩
   rw [addrAdd, hk.cell]
   simpa using hu
 rcases hv with ⟨rfl, rfl, rfl⟩ | ⟨g, off, cap, cur, rfl, hBg, hkG, hn1, hn2, hn3, -, hcells⟩
 · obtain rfl : i = 0 := by omega
   clear hx1 hy1 hne hxl
   go_enter Tryz.func104, Tryz.ntmps104
   go_wp2_with (at_builtin; refine wpList_append_ro tyI rfl (.tmp 23) (.tmp 24) rfl B (.slice none 0 0) 0 [] rfl (Ro.nil _ _ _ _) hB (by omega) _ _ 1 ys rfl hyS (by omega) HY.out ?_; intro v' w' h1 h2 h3)
   go_ret
   exact ⟨_, rfl, by simpa [insC] using h1, h2, h3⟩
 clear hx1 hy1 hne
 by_cases hin : i = n
 · -- << tail
   subst hin
   have hvo := HV.out
   have ht : xs.take (i * 1) = xs := List.take_of_length_le (by omega)
   have hd : xs.drop (i * 1) = [] := List.drop_eq_nil_of_le (by omega)
   have HR := Lib.hid (show insC 1 i xs ys = xs ++ ys by unfold insC; rw [ht, hd, List.append_nil])
   clear ht hd hcells
   go_enter Tryz.func104, Tryz.ntmps104
   go_wp2_with (at_builtin; refine wpList_append_ro tyI rfl (.tmp 23) (.tmp 24) rfl B _ i xs rfl hvo hB (by omega) _ _ 1 ys rfl hyS (by omega) HY.out ?_; intro v' w' h1 h2 h3)
   all_goals (go_ret; exact ⟨_, rfl, by rw [HR.out]; exact h1, h2, h3⟩)
 have hlt : i < n := by omega
 have hbi : ((i : Int) == (n : Int)) = false := by rw [beq_eq_false_iff_ne]; omega
 clear hin
 by_cases hroom : n + 1 ≤ cap
 · skip
   have hc1 : ¬ cap = i := by omega
   have hc2 : ¬ cap = i + 1 := by omega
   have hc3 : (n : Int) + 1 ≤ (cap : Int) := by omega
   have hdl : (xs.drop (i)).length = (n - i) * 1 := by rw [List.length_drop, hxl, Nat.sub_mul]; try simp only [Nat.mul_one]
   have e3 : i * 1 + 1 ≤ n * 1 := by have := Nat.mul_le_mul_right 1 (show i + 1 ≤ n from hlt); omega
   have e4 : n * 1 + 1 ≤ cap * 1 := by have := Nat.mul_le_mul_right 1 hroom; omega
   have hgg : gv ≠ g := fun h => HNE.out g rfl h.symm
   have hov : ∀ lb cb, (callFunc 116 #[.slice (some ⟨gv, 0, none⟩) 1 1, .slice (some ⟨g, off + (i + 1), none⟩) lb cb]).run Tryz.prog w = .ok (.value (.bool false)) w := fun lb cb => by
     obtain ⟨i0, z, hi0, -, h10, -⟩ := (tyI).info
     rw [run_callFunc_extern Tryz.func116 (by kernel_rfl) (by kernel_rfl) (by kernel_rfl) (e := Extern.SlicesOverlaps.overlaps #[33, 33] #[4]) (by kernel_rfl),
       Lib.run_overlaps_apart w 33 4 3 (tyI).sl 1 (fun w => by simp [sizeOf, typeInfo, hi0, h10]) ⟨gv, 0, none⟩ ⟨g, off + (i + 1), none⟩ 1 1 lb cb hgg 3 3 ys.toArray.size cur.size hk.shp hkG.shp (by omega) (hk.frozen 0) (hk.frozen _)]
     rfl
   clear e3 e4
   go_enter Tryz.func104, Tryz.ntmps104
   go_upto_region 15 with fail
   clear hov
   have HE := Lib.hid (show (i + 1) * 1 = i * 1 + 1 ∧ (n - i) * 1 = n * 1 - i * 1 ∧ i * 1 + 1 ≤ n * 1 ∧ n * 1 + 1 ≤ cap * 1 from ⟨Nat.succ_mul i 1, Nat.sub_mul n i 1, by have := Nat.mul_le_mul_right 1 (show i + 1 ≤ n from hlt); omega, by have := Nat.mul_le_mul_right 1 hroom; omega⟩)
   have HDL := Lib.hid hdl
   have HMN := Lib.hid (show Nat.min (n + 1 - i) (n - i) = n - i from Nat.min_eq_right (by omega))
   clear hdl
   have hkG0 := hkG.drew
   have hc0 : ∀ j u, xs[j]? = some u → w.drew.cell? ⟨g, off + j, none⟩ = some u := hcells
   have HC0 := Lib.hid hc0
   clear hc0
   refine wp_region_tree (.path [[.calm 0 false, .calm 1 false, .calm 2 false], [.calm 3 true, .calm 4 false, .calm 5 false, .calm 6 false, .calm 7 false], [.eff 8 none false]]) none (by as_aux_lemma => kernel_rfl) (by as_aux_lemma => kernel_rfl) (by as_aux_lemma => kernel_rfl) ?_
   show wpSegs _ _ _ _ _ _ _ _ _
   refine seg_plain rfl rfl (fun K hK => ?_)
   simp only [sgA, sgB, itAt, sgC, sgD, sgE]
   show wpList _ _ _ [_, _, _] _ _
   go_wp2_with fail
   refine EndQ.normal (hK.go ?_)
   clear hK K
   refine seg_chk rfl rfl (fun K hK => ?_)
   simp only [sgA, sgB, itAt, sgC, sgD, sgE]
   show wpList _ _ _ [_, _, _, _, _] _ _
   go_wp2_with fail
   refine EndQ.normal (hK.go ?_)
   clear hK K
   refine seg_plain rfl rfl (fun K hK => ?_)
   simp only [sgA, sgB, itAt, sgC, sgD, sgE]
   show wpList _ _ _ [_] _ _
   refine (wpList_copy_k tyI rfl (.tmp 73) (.tmp 76) rfl g (off + (i + 1)) _ _ ⟨g, off + i, none⟩ _ _ rfl rfl (xs.drop (i)) (by rw [HDL.out, HMN.out]) (fun j u hj => by rw [addrAdd, Nat.add_assoc]; rw [List.getElem?_drop] at hj; first | exact HC0.out _ u hj | (rw [Nat.mul_one] at hj; exact HC0.out _ u hj)) (fun j hj => by have he := HE.out; rw [hkG0.cell, Array.getElem?_eq_getElem (by rw [HDL.out] at hj; omega)]; rfl) (fun j hj => hkG0.frozen _) (fun u hu => HX.out u (List.mem_of_mem_drop hu)) ?_)
   go_wp2_with fail
   refine EndQ.normal (hK.go ?_)
   clear hK K
   refine seg_end ?_
   obtain ⟨cur1, hk1, hs1⟩ := setCells_blk (xs.drop (i)) (off + (i + 1)) w.drew g 3 cur hkG0
   have hch1 : Chg (· = g) w (w.drew.setCells g (off + (i + 1)) (xs.drop (i))) := ((Chg.refl _ w).drew).trans (setCells_chg _ _ _ _)
   have hkv := hch1.blk hk hgg
   have HW := Lib.hid (ins_cells (size := 1) hkG0 (by have he := HE.out; have := Nat.succ_mul n 1; omega) hxl hys hlt HC0.out)
   have HM1 := Lib.hid (show Nat.min 1 (n + 1 - i) = 1 from Nat.min_eq_left (by omega))
   generalize hw1 : w.drew.setCells g (off + (i + 1)) (xs.drop (i)) = w1 at *
   have HW1 := Lib.hid hw1
   clear hw1
   have hcp : ∀ ty, (Builtin.copy_ #[33, 33] ty #[.slice (some ⟨g, off + i, none⟩) (n + 1 - i) (cap - i), .slice (some ⟨gv, 0, none⟩) 1 1]).run Tryz.prog w1 = .ok (goInt 1) (w1.setCells g (off + i) ys) := fun ty => by
     have h := run_copy_k tyI w1 ty g (off + i) (n + 1 - i) (cap - i) ⟨gv, 0, none⟩ 1 1 ys (by rw [HM1.out, hys]) (fun j u hj => by rw [addrAdd, hkv.cell]; simpa using hj) (fun j hj => by have he := HE.out; rw [hk1.cell, Array.getElem?_eq_getElem (by omega)]; rfl) (fun j hj => hk1.frozen _) HY.out
     rw [HM1.out] at h
     exact h
   go_wp2_with fail
   go_ret
   obtain ⟨cur2, hk2, hs2⟩ := setCells_blk ys (off + i) w1 g 3 cur1 hk1
   have hch2 := hch1.trans (setCells_chg ys (off + i) w1 g)
   refine ⟨_, rfl, .inr ⟨g, off, cap, cur2, by simp, hBg, hk2, hroom, hn2, by omega, insC_len hxl hys hi, ?_⟩, hch2.mono fun k _ e => by rw [e]; rfl, fun k h => .inl h⟩
   have h9 := HW.out
   try simp only [Nat.mul_one] at h9
   try simp only [Nat.mul_one]
   try rw [HW1.out] at h9
   exact h9
 · skip
   have hcap : cap = n := by omega
   have hcc : (cap : Int) < (n : Int) + 1 := by omega
   obtain ⟨i0, z, hi0, hz, h10, hby, hzc, hz1⟩ := (tyI).info
   have htl : (xs.take (i)).length = i := by rw [List.length_take, hxl]; have := Nat.mul_le_mul_right 1 (Nat.le_of_lt hlt); omega
   have hold : (Builtin.firstCells i0.size i (.slice (some ⟨g, off, none⟩) i cap)).run Tryz.prog w.drew = .ok (xs.take (i)).toArray w.drew := by
     rw [h10]
     exact run_firstCells_some w.drew 1 i ⟨g, off, none⟩ i cap (xs.take (i)) (by rw [htl]; try rw [Nat.mul_one]) (fun j v hj => by
       rw [addrAdd]
       rw [List.getElem?_take] at hj
       split at hj
       · exact hcells j v hj
       · cases hj)
   have hrz : ∀ ty, (Builtin.append_ #[33, 3] ty #[.slice (some ⟨g, off, none⟩) i cap, .int .i64 ((n : Int) + 1 - (i : Int))]).run Tryz.prog w =
       .ok (.slice (some ⟨w.heap.size, 0, none⟩) (n + 1) (grownCap w (n + 1) cap 3)) (w.drew.alloc (.cells ((xs.take (i)).toArray ++ Builtin.zeroCells z.cells (n + 1 - i) ++ Builtin.zeroCells z.cells (grownCap w (n + 1) cap 3 - (n + 1))) 3)) := fun ty => by
     have h := Lib.run_append_grow_zeros w 33 3 ty 3 i0 z .i64 .i64 (tyI).sl Tryz.underlying3 hi0 hz (some ⟨g, off, none⟩) i cap (xs.take (i)) hold (n + 1 - i) (by omega) (by omega) (by omega) (by omega)
       (Nat.le_trans (Nat.mul_le_mul (show n + 1 - i ≤ 200000 by omega) hby) (by decide)) (growslice_fits (by omega) (Nat.le_trans (Nat.mul_le_mul (show i + (n + 1 - i) ≤ 200000 by omega) hby) (by decide)))
     rw [show i + (n + 1 - i) = n + 1 by omega, show ((n + 1 - i : Nat) : Int) = (n : Int) + 1 - (i : Int) by omega] at h
     exact h
   have hGn : n + 1 ≤ grownCap w (n + 1) cap 3 := grownCap_ge w _ _ _
   have hG63 : grownCap w (n + 1) cap 3 ≤ 9223372036854775807 := by
     have := grownCap_le_maxLen w (n + 1) cap 3 (by unfold maxLen; omega)
     unfold maxLen at this
     omega
   generalize grownCap w (n + 1) cap 3 = G at *
   obtain ⟨ROW, hROW⟩ : ∃ ROW : Array Value, (xs.take (i)).toArray ++ Builtin.zeroCells z.cells (n + 1 - i) ++ Builtin.zeroCells z.cells (G - (n + 1)) = ROW := ⟨_, rfl⟩
   have hRs : ROW.size = G * 1 := by
     rw [← hROW]
     simp only [Array.size_append, List.size_toArray, htl, Builtin.zeroCells, hzc, Array.size_map, Array.size_range]
     have a1 : (n + 1 - i) * 1 + i * 1 = (n + 1) * 1 := by rw [← Nat.add_mul]; congr 1; omega
     have a2 : (G - (n + 1)) * 1 + (n + 1) * 1 = G * 1 := by rw [← Nat.add_mul]; congr 1; omega
     omega
   have hRc : ∀ j u, (xs.take (i))[j]? = some u → ROW[j]? = some u := fun j u hj => by
     have hj2 := (List.getElem?_eq_some_iff.1 hj).1
     rw [← hROW, Array.getElem?_append_left (by simp; omega), Array.getElem?_append_left (by simpa using hj2)]
     simpa using hj
   rw [hROW] at hrz
   obtain ⟨w1, hw1⟩ : ∃ w1, w.drew.alloc (.cells ROW 3) = w1 := ⟨_, rfl⟩
   have hkN : Blk w1 w.heap.size 3 ROW := by rw [← hw1]; exact Blk.new w.drew _ _
   have hb1 : Below w.heap.size w w1 := by rw [← hw1]; exact ((Below.refl w.heap.size w).drew).alloc (Nat.le_refl _) _
   rw [hw1] at hrz
   clear hw1 hROW hold
   have hg2l := hkN.lt
   have hgl := hkG.lt
   have hvl := hk.lt
   have HRZ := Lib.hid hrz
   clear hrz
   obtain ⟨g2, hg2⟩ : ∃ g2, w.heap.size = g2 := ⟨_, rfl⟩
   have HRZ2 : Hid (∀ ty, (Builtin.append_ #[33, 3] ty #[.slice (some ⟨g, off, none⟩) i cap, .int .i64 ((n : Int) + 1 - (i : Int))]).run Tryz.prog w = .ok (.slice (some ⟨g2, 0, none⟩) (n + 1) G) w1) := by rw [← hg2]; exact HRZ
   rw [hg2] at hkN hg2l
   have hgg2 : g ≠ g2 := by omega
   have hgv2 : gv ≠ g2 := by omega
   have hkv1 := hk.below' hb1
   have hkg1 := hkG.below' hb1
   have hcl1 : ∀ j u, xs[j]? = some u → w1.cell? ⟨g, off + j, none⟩ = some u := fun j u hj => (World.cell?_of_block (a := ⟨g, off + j, none⟩) (hb1.block g hgl)).trans (hcells j u hj)
   have HE := Lib.hid (show (i + 1) * 1 = i * 1 + 1 ∧ (n - i) * 1 = n * 1 - i * 1 ∧ i * 1 + 1 ≤ n * 1 ∧ (n + 1) * 1 = n * 1 + 1 ∧ (n + 1) * 1 ≤ G * 1 from
     ⟨Nat.succ_mul i 1, Nat.sub_mul n i 1, by have := Nat.mul_le_mul_right 1 (show i + 1 ≤ n from hlt); omega, Nat.succ_mul n 1, Nat.mul_le_mul_right 1 hGn⟩)
   have HM1 := Lib.hid (show Nat.min 1 (n + 1 - i) = 1 from Nat.min_eq_left (by omega))
   have HM2 := Lib.hid (show Nat.min (n - i) (n - i) = n - i from Nat.min_self _)
   have HDL := Lib.hid (show (xs.drop (i)).length = (n - i) * 1 by rw [List.length_drop, hxl, Nat.sub_mul]; try simp only [Nat.mul_one])
   have hcpA : ∀ ty, (Builtin.copy_ #[33, 33] ty #[.slice (some ⟨g2, i, none⟩) (n + 1 - i) (G - i), .slice (some ⟨gv, 0, none⟩) 1 1]).run Tryz.prog w1 = .ok (goInt 1) (w1.setCells g2 (i) ys) := fun ty => by
     have h := run_copy_k tyI w1 ty g2 (i) (n + 1 - i) (G - i) ⟨gv, 0, none⟩ 1 1 ys (by rw [HM1.out, hys]) (fun j u hj => by rw [addrAdd, hkv1.cell]; simpa using hj) (fun j hj => by have he := HE.out; rw [hkN.cell, Array.getElem?_eq_getElem (by omega)]; rfl) (fun j hj => hkN.frozen _) HY.out
     rw [HM1.out] at h
     exact h
   have hGi : ¬ G = i := by omega
   have hGi1 : ¬ G = i + 1 := by omega
   have hci : ¬ cap = i := by omega
   obtain ⟨w2, hw2⟩ : ∃ w2, w1.setCells g2 (i) ys = w2 := ⟨_, rfl⟩
   rw [hw2] at hcpA
   have HW2 := Lib.hid hw2
   have HRC := Lib.hid hRc
   clear hw2 hcap htl hRc
   go_enter Tryz.func104, Tryz.ntmps104
   go_upto_region 11 with (at_builtin; refine Lib.wpList_append_run _ rfl _ _ _ _ rfl _ _ rfl rfl _ _ (HRZ2.out _) ?_)
   clear hcpA
   obtain ⟨cur2, hk2, hs2⟩ := setCells_blk ys (i) w1 g2 3 ROW hkN
   have hch2 := setCells_chg ys (i) w1 g2
   rw [HW2.out] at hk2 hch2
   have hk2d := hk2.drew
   have hcl2 : ∀ j u, xs[j]? = some u → w2.drew.cell? ⟨g, off + j, none⟩ = some u := fun j u hj => (World.cell?_of_block (a := ⟨g, off + j, none⟩) (hch2.block g hkg1.lt (fun h => hgg2 h))).trans (hcl1 j u hj)
   have HCL2 := Lib.hid hcl2
   clear hcl2 hcl1 hcells
   have hcpB : ∀ ty, (Builtin.copy_ #[33, 33] ty #[.slice (some ⟨g2, i + 1, none⟩) (n - i) (G - (i + 1)), .slice (some ⟨g, off + i, none⟩) (n - i) (cap - i)]).run Tryz.prog w2.drew = .ok (goInt ((n - i : Nat) : Int)) (w2.drew.setCells g2 (i + 1) (xs.drop (i))) := fun ty => by
     have h := run_copy_k tyI w2.drew ty g2 (i + 1) (n - i) (G - (i + 1)) ⟨g, off + i, none⟩ (n - i) (cap - i) (xs.drop (i)) (by rw [HDL.out, HM2.out]) (fun j u hj => by rw [addrAdd, Nat.add_assoc]; rw [List.getElem?_drop] at hj; exact HCL2.out _ u hj) (fun j hj => by have he := HE.out; rw [hk2d.cell, Array.getElem?_eq_getElem (by rw [HDL.out] at hj; omega)]; rfl) (fun j hj => hk2d.frozen _) (fun u hu => HX.out u (List.mem_of_mem_drop hu))
     rw [HM2.out] at h
     exact h
   obtain ⟨w3, hw3⟩ : ∃ w3, w2.drew.setCells g2 (i + 1) (xs.drop (i)) = w3 := ⟨_, rfl⟩
   rw [hw3] at hcpB
   have HW3 := Lib.hid hw3
   have HCPB := Lib.hid hcpB
   clear hw3 hcpB
   refine wp_region_tree (.path [[.calm 0 false, .calm 1 false, .calm 2 false], [.calm 3 true, .calm 4 false, .calm 5 false, .calm 6 false, .calm 7 false], [.eff 8 none false]]) none (by as_aux_lemma => kernel_rfl) (by as_aux_lemma => kernel_rfl) (by as_aux_lemma => kernel_rfl) ?_
   show wpSegs _ _ _ _ _ _ _ _ _
   refine seg_plain rfl rfl (fun K hK => ?_)
   simp only [sgA, sgB, itAt, sgC, sgD, sgE]
   show wpList _ _ _ [_, _, _] _ _
   go_wp2_with fail
   refine EndQ.normal (hK.go ?_)
   clear hK K
   refine seg_chk rfl rfl (fun K hK => ?_)
   simp only [sgA, sgB, itAt, sgC, sgD, sgE]
   show wpList _ _ _ [_, _, _, _, _] _ _
   go_wp2_with fail
   refine EndQ.normal (hK.go ?_)
   clear hK K
   have hcpB := HCPB.out
   refine seg_plain rfl rfl (fun K hK => ?_)
   simp only [sgA, sgB, itAt, sgC, sgD, sgE]
   show wpList _ _ _ [_] _ _
   go_wp2_with fail
   refine EndQ.normal (hK.go ?_)
   clear hK K
   refine seg_end ?_
   clear hcpB
   go_wp2_with fail
   go_ret
   obtain ⟨cur3, hk3, hs3⟩ := setCells_blk (xs.drop (i)) (i + 1) w2.drew g2 3 cur2 hk2d
   have hch3 := setCells_chg (xs.drop (i)) (i + 1) w2.drew g2
   rw [HW3.out] at hk3 hch3
   have hB3 : Below w.heap.size w w3 := by
     have ha := Chg.below (B := w.heap.size) hb1 hch2 hb1.size (fun k hk => by omega)
     exact Chg.below ha.drew hch3 ha.drew.size (fun k hk => by omega)
   refine ⟨_, rfl, .inr ⟨g2, 0, G, cur3, by simp, by omega, hk3, hGn, hG63, by rw [hs3, hs2, hRs]; omega, insC_len hxl hys hi, ?_⟩, Chg.of_below hB3, fun k h => .inr (by have h9 : g2 = k := Option.some.inj h; omega)⟩
   have h9 := grow_cells (size := 1) (i := i) (n := n) (xs := xs) (ys := ys) hkN (by rw [hRs]; exact HE.out.2.2.2.2) hxl hys hlt (fun j u hj => HRC.out j u (by (try simp only [Nat.mul_one] at hj); exact hj))
   try simp only [Nat.mul_one] at h9
   rw [HW2.out, HW3.out] at h9
   exact h9
set_option maxHeartbeats 4000000 in
set_option maxRecDepth 100000 in
theorem insertE_any (B gv n i : Nat) (v : Value) (xs ys : List Value) (w : World) (hv : Ro w B 10 38 v n xs) (hi : i ≤ n) (hn : n ≤ 100000) (hk : Blk w gv 38 ys.toArray) (hys : ys.length = 10)
   (hx1 : ∀ u ∈ xs, u.oneCell' = true) (hy1 : ∀ u ∈ ys, u.oneCell' = true) (hne : ∀ k, v.ownBlock = some k → k ≠ gv) (hB : B ≤ w.heap.size) :
   Calls Tryz.prog 84 #[v, .int .i64 (i : Int), .slice (some ⟨gv, 0, none⟩) 1 1] w fun e w' => ∃ v', e = .returned v' ∧ Ro w' B 10 38 v' (n + 1) (insC 10 i xs ys) ∧ Chg (fun k => v.ownBlock = some k) w w' ∧ ∀ k, v'.ownBlock = some k → v.ownBlock = some k ∨ w.heap.size ≤ k := by
 have HV := Lib.hid hv
 have HNE := Lib.hid hne
 have HX := Lib.hid hx1
 have HY := Lib.hid hy1
 have hxl := hv.len
 have hyS : Sl w (fun _ => True) 10 (.slice (some ⟨gv, 0, none⟩) 1 1) 1 ys := by
   refine ⟨_, _, rfl, Nat.le_refl _, by unfold maxLen; omega, by omega, (fun h => by cases h), fun _ => ⟨_, rfl, trivial, fun j u hu => ?_⟩⟩
   rw [addrAdd, hk.cell]
   simpa using hu
 rcases hv with ⟨rfl, rfl, rfl⟩ | ⟨g, off, cap, cur, rfl, hBg, hkG, hn1, hn2, hn3, -, hcells⟩
 · obtain rfl : i = 0 := by omega
   clear hx1 hy1 hne hxl
   go_enter Tryz.func84, Tryz.ntmps84
   go_wp2_with (at_builtin; refine wpList_append_ro tyE rfl (.tmp 23) (.tmp 24) rfl B (.slice none 0 0) 0 [] rfl (Ro.nil _ _ _ _) hB (by omega) _ _ 1 ys rfl hyS (by omega) HY.out ?_; intro v' w' h1 h2 h3)
   go_ret
   exact ⟨_, rfl, by simpa [insC] using h1, h2, h3⟩
 clear hx1 hy1 hne
 by_cases hin : i = n
 · -- << tail
   subst hin
   have hvo := HV.out
   have ht : xs.take (i * 10) = xs := List.take_of_length_le (by omega)
   have hd : xs.drop (i * 10) = [] := List.drop_eq_nil_of_le (by omega)
   have HR := Lib.hid (show insC 10 i xs ys = xs ++ ys by unfold insC; rw [ht, hd, List.append_nil])
   clear ht hd hcells
   go_enter Tryz.func84, Tryz.ntmps84
   go_wp2_with (at_builtin; refine wpList_append_ro tyE rfl (.tmp 23) (.tmp 24) rfl B _ i xs rfl hvo hB (by omega) _ _ 1 ys rfl hyS (by omega) HY.out ?_; intro v' w' h1 h2 h3)
   all_goals (go_ret; exact ⟨_, rfl, by rw [HR.out]; exact h1, h2, h3⟩)
 have hlt : i < n := by omega
 have hbi : ((i : Int) == (n : Int)) = false := by rw [beq_eq_false_iff_ne]; omega
 clear hin
 by_cases hroom : n + 1 ≤ cap
 · skip
   have hc1 : ¬ cap = i := by omega
   have hc2 : ¬ cap = i + 1 := by omega
   have hc3 : (n : Int) + 1 ≤ (cap : Int) := by omega
   have hdl : (xs.drop (i * 10)).length = (n - i) * 10 := by rw [List.length_drop, hxl, Nat.sub_mul]; try simp only [Nat.mul_one]
   have e3 : i * 10 + 10 ≤ n * 10 := by have := Nat.mul_le_mul_right 10 (show i + 1 ≤ n from hlt); omega
   have e4 : n * 10 + 10 ≤ cap * 10 := by have := Nat.mul_le_mul_right 10 hroom; omega
   have hgg : gv ≠ g := fun h => HNE.out g rfl h.symm
   have hov : ∀ lb cb, (callFunc 105 #[.slice (some ⟨gv, 0, none⟩) 1 1, .slice (some ⟨g, off + (i + 1) * 10, none⟩) lb cb]).run Tryz.prog w = .ok (.value (.bool false)) w := fun lb cb => by
     obtain ⟨i0, z, hi0, -, h10, -⟩ := (tyE).info
     rw [run_callFunc_extern Tryz.func105 (by kernel_rfl) (by kernel_rfl) (by kernel_rfl) (e := Extern.SlicesOverlaps.overlaps #[26, 26] #[4]) (by kernel_rfl),
       Lib.run_overlaps_apart w 26 4 38 (tyE).sl 10 (fun w => by simp [sizeOf, typeInfo, hi0, h10]) ⟨gv, 0, none⟩ ⟨g, off + (i + 1) * 10, none⟩ 1 1 lb cb hgg 38 38 ys.toArray.size cur.size hk.shp hkG.shp (by omega) (hk.frozen 0) (hk.frozen _)]
     rfl
   clear e3 e4
   go_enter Tryz.func84, Tryz.ntmps84
   go_upto_region 15 with fail
   clear hov
   have HE := Lib.hid (show (i + 1) * 10 = i * 10 + 10 ∧ (n - i) * 10 = n * 10 - i * 10 ∧ i * 10 + 10 ≤ n * 10 ∧ n * 10 + 10 ≤ cap * 10 from ⟨Nat.succ_mul i 10, Nat.sub_mul n i 10, by have := Nat.mul_le_mul_right 10 (show i + 1 ≤ n from hlt); omega, by have := Nat.mul_le_mul_right 10 hroom; omega⟩)
   have HDL := Lib.hid hdl
   have HMN := Lib.hid (show Nat.min (n + 1 - i) (n - i) = n - i from Nat.min_eq_right (by omega))
   clear hdl
   have hkG0 := hkG.drew
   have hc0 : ∀ j u, xs[j]? = some u → w.drew.cell? ⟨g, off + j, none⟩ = some u := hcells
   have HC0 := Lib.hid hc0
   clear hc0
   refine wp_region_tree (.path [[.calm 0 false, .calm 1 false, .calm 2 false], [.calm 3 true, .calm 4 false, .calm 5 false, .calm 6 false, .calm 7 false], [.eff 8 none false]]) none (by as_aux_lemma => kernel_rfl) (by as_aux_lemma => kernel_rfl) (by as_aux_lemma => kernel_rfl) ?_
   show wpSegs _ _ _ _ _ _ _ _ _
   refine seg_plain rfl rfl (fun K hK => ?_)
   simp only [sgA, sgB, itAt, sgC, sgD, sgE]
   show wpList _ _ _ [_, _, _] _ _
   go_wp2_with fail
   refine EndQ.normal (hK.go ?_)
   clear hK K
   refine seg_chk rfl rfl (fun K hK => ?_)
   simp only [sgA, sgB, itAt, sgC, sgD, sgE]
   show wpList _ _ _ [_, _, _, _, _] _ _
   go_wp2_with fail
   refine EndQ.normal (hK.go ?_)
   clear hK K
   refine seg_plain rfl rfl (fun K hK => ?_)
   simp only [sgA, sgB, itAt, sgC, sgD, sgE]
   show wpList _ _ _ [_] _ _
   refine (wpList_copy_k tyE rfl (.tmp 73) (.tmp 76) rfl g (off + (i + 1) * 10) _ _ ⟨g, off + i * 10, none⟩ _ _ rfl rfl (xs.drop (i * 10)) (by rw [HDL.out, HMN.out]) (fun j u hj => by rw [addrAdd, Nat.add_assoc]; rw [List.getElem?_drop] at hj; first | exact HC0.out _ u hj | (rw [Nat.mul_one] at hj; exact HC0.out _ u hj)) (fun j hj => by have he := HE.out; rw [hkG0.cell, Array.getElem?_eq_getElem (by rw [HDL.out] at hj; omega)]; rfl) (fun j hj => hkG0.frozen _) (fun u hu => HX.out u (List.mem_of_mem_drop hu)) ?_)
   go_wp2_with fail
   refine EndQ.normal (hK.go ?_)
   clear hK K
   refine seg_end ?_
   obtain ⟨cur1, hk1, hs1⟩ := setCells_blk (xs.drop (i * 10)) (off + (i + 1) * 10) w.drew g 38 cur hkG0
   have hch1 : Chg (· = g) w (w.drew.setCells g (off + (i + 1) * 10) (xs.drop (i * 10))) := ((Chg.refl _ w).drew).trans (setCells_chg _ _ _ _)
   have hkv := hch1.blk hk hgg
   have HW := Lib.hid (ins_cells (size := 10) hkG0 (by have he := HE.out; have := Nat.succ_mul n 10; omega) hxl hys hlt HC0.out)
   have HM1 := Lib.hid (show Nat.min 1 (n + 1 - i) = 1 from Nat.min_eq_left (by omega))
   generalize hw1 : w.drew.setCells g (off + (i + 1) * 10) (xs.drop (i * 10)) = w1 at *
   have HW1 := Lib.hid hw1
   clear hw1
   have hcp : ∀ ty, (Builtin.copy_ #[26, 26] ty #[.slice (some ⟨g, off + i * 10, none⟩) (n + 1 - i) (cap - i), .slice (some ⟨gv, 0, none⟩) 1 1]).run Tryz.prog w1 = .ok (goInt 1) (w1.setCells g (off + i * 10) ys) := fun ty => by
     have h := run_copy_k tyE w1 ty g (off + i * 10) (n + 1 - i) (cap - i) ⟨gv, 0, none⟩ 1 1 ys (by rw [HM1.out, hys]) (fun j u hj => by rw [addrAdd, hkv.cell]; simpa using hj) (fun j hj => by have he := HE.out; rw [hk1.cell, Array.getElem?_eq_getElem (by omega)]; rfl) (fun j hj => hk1.frozen _) HY.out
     rw [HM1.out] at h
     exact h
   go_wp2_with fail
   go_ret
   obtain ⟨cur2, hk2, hs2⟩ := setCells_blk ys (off + i * 10) w1 g 38 cur1 hk1
   have hch2 := hch1.trans (setCells_chg ys (off + i * 10) w1 g)
   refine ⟨_, rfl, .inr ⟨g, off, cap, cur2, by simp, hBg, hk2, hroom, hn2, by omega, insC_len hxl hys hi, ?_⟩, hch2.mono fun k _ e => by rw [e]; rfl, fun k h => .inl h⟩
   have h9 := HW.out
   try simp only [Nat.mul_one] at h9
   try simp only [Nat.mul_one]
   try rw [HW1.out] at h9
   exact h9
 · skip
   have hcap : cap = n := by omega
   have hcc : (cap : Int) < (n : Int) + 1 := by omega
   obtain ⟨i0, z, hi0, hz, h10, hby, hzc, hz1⟩ := (tyE).info
   have htl : (xs.take (i * 10)).length = i * 10 := by rw [List.length_take, hxl]; have := Nat.mul_le_mul_right 10 (Nat.le_of_lt hlt); omega
   have hold : (Builtin.firstCells i0.size i (.slice (some ⟨g, off, none⟩) i cap)).run Tryz.prog w.drew = .ok (xs.take (i * 10)).toArray w.drew := by
     rw [h10]
     exact run_firstCells_some w.drew 10 i ⟨g, off, none⟩ i cap (xs.take (i * 10)) (by rw [htl]; try rw [Nat.mul_one]) (fun j v hj => by
       rw [addrAdd]
       rw [List.getElem?_take] at hj
       split at hj
       · exact hcells j v hj
       · cases hj)
   have hrz : ∀ ty, (Builtin.append_ #[26, 3] ty #[.slice (some ⟨g, off, none⟩) i cap, .int .i64 ((n : Int) + 1 - (i : Int))]).run Tryz.prog w =
       .ok (.slice (some ⟨w.heap.size, 0, none⟩) (n + 1) (grownCap w (n + 1) cap 38)) (w.drew.alloc (.cells ((xs.take (i * 10)).toArray ++ Builtin.zeroCells z.cells (n + 1 - i) ++ Builtin.zeroCells z.cells (grownCap w (n + 1) cap 38 - (n + 1))) 38)) := fun ty => by
     have h := Lib.run_append_grow_zeros w 26 3 ty 38 i0 z .i64 .i64 (tyE).sl Tryz.underlying3 hi0 hz (some ⟨g, off, none⟩) i cap (xs.take (i * 10)) hold (n + 1 - i) (by omega) (by omega) (by omega) (by omega)
       (Nat.le_trans (Nat.mul_le_mul (show n + 1 - i ≤ 200000 by omega) hby) (by decide)) (growslice_fits (by omega) (Nat.le_trans (Nat.mul_le_mul (show i + (n + 1 - i) ≤ 200000 by omega) hby) (by decide)))
     rw [show i + (n + 1 - i) = n + 1 by omega, show ((n + 1 - i : Nat) : Int) = (n : Int) + 1 - (i : Int) by omega] at h
     exact h
   have hGn : n + 1 ≤ grownCap w (n + 1) cap 38 := grownCap_ge w _ _ _
   have hG63 : grownCap w (n + 1) cap 38 ≤ 9223372036854775807 := by
     have := grownCap_le_maxLen w (n + 1) cap 38 (by unfold maxLen; omega)
     unfold maxLen at this
     omega
   generalize grownCap w (n + 1) cap 38 = G at *
   obtain ⟨ROW, hROW⟩ : ∃ ROW : Array Value, (xs.take (i * 10)).toArray ++ Builtin.zeroCells z.cells (n + 1 - i) ++ Builtin.zeroCells z.cells (G - (n + 1)) = ROW := ⟨_, rfl⟩
   have hRs : ROW.size = G * 10 := by
     rw [← hROW]
     simp only [Array.size_append, List.size_toArray, htl, Builtin.zeroCells, hzc, Array.size_map, Array.size_range]
     have a1 : (n + 1 - i) * 10 + i * 10 = (n + 1) * 10 := by rw [← Nat.add_mul]; congr 1; omega
     have a2 : (G - (n + 1)) * 10 + (n + 1) * 10 = G * 10 := by rw [← Nat.add_mul]; congr 1; omega
     omega
   have hRc : ∀ j u, (xs.take (i * 10))[j]? = some u → ROW[j]? = some u := fun j u hj => by
     have hj2 := (List.getElem?_eq_some_iff.1 hj).1
     rw [← hROW, Array.getElem?_append_left (by simp; omega), Array.getElem?_append_left (by simpa using hj2)]
     simpa using hj
   rw [hROW] at hrz
   obtain ⟨w1, hw1⟩ : ∃ w1, w.drew.alloc (.cells ROW 38) = w1 := ⟨_, rfl⟩
   have hkN : Blk w1 w.heap.size 38 ROW := by rw [← hw1]; exact Blk.new w.drew _ _
   have hb1 : Below w.heap.size w w1 := by rw [← hw1]; exact ((Below.refl w.heap.size w).drew).alloc (Nat.le_refl _) _
   rw [hw1] at hrz
   clear hw1 hROW hold
   have hg2l := hkN.lt
   have hgl := hkG.lt
   have hvl := hk.lt
   have HRZ := Lib.hid hrz
   clear hrz
   obtain ⟨g2, hg2⟩ : ∃ g2, w.heap.size = g2 := ⟨_, rfl⟩
   have HRZ2 : Hid (∀ ty, (Builtin.append_ #[26, 3] ty #[.slice (some ⟨g, off, none⟩) i cap, .int .i64 ((n : Int) + 1 - (i : Int))]).run Tryz.prog w = .ok (.slice (some ⟨g2, 0, none⟩) (n + 1) G) w1) := by rw [← hg2]; exact HRZ
   rw [hg2] at hkN hg2l
   have hgg2 : g ≠ g2 := by omega
   have hgv2 : gv ≠ g2 := by omega
   have hkv1 := hk.below' hb1
   have hkg1 := hkG.below' hb1
   have hcl1 : ∀ j u, xs[j]? = some u → w1.cell? ⟨g, off + j, none⟩ = some u := fun j u hj => (World.cell?_of_block (a := ⟨g, off + j, none⟩) (hb1.block g hgl)).trans (hcells j u hj)
   have HE := Lib.hid (show (i + 1) * 10 = i * 10 + 10 ∧ (n - i) * 10 = n * 10 - i * 10 ∧ i * 10 + 10 ≤ n * 10 ∧ (n + 1) * 10 = n * 10 + 10 ∧ (n + 1) * 10 ≤ G * 10 from
     ⟨Nat.succ_mul i 10, Nat.sub_mul n i 10, by have := Nat.mul_le_mul_right 10 (show i + 1 ≤ n from hlt); omega, Nat.succ_mul n 10, Nat.mul_le_mul_right 10 hGn⟩)
   have HM1 := Lib.hid (show Nat.min 1 (n + 1 - i) = 1 from Nat.min_eq_left (by omega))
   have HM2 := Lib.hid (show Nat.min (n - i) (n - i) = n - i from Nat.min_self _)
   have HDL := Lib.hid (show (xs.drop (i * 10)).length = (n - i) * 10 by rw [List.length_drop, hxl, Nat.sub_mul]; try simp only [Nat.mul_one])
   have hcpA : ∀ ty, (Builtin.copy_ #[26, 26] ty #[.slice (some ⟨g2, i * 10, none⟩) (n + 1 - i) (G - i), .slice (some ⟨gv, 0, none⟩) 1 1]).run Tryz.prog w1 = .ok (goInt 1) (w1.setCells g2 (i * 10) ys) := fun ty => by
     have h := run_copy_k tyE w1 ty g2 (i * 10) (n + 1 - i) (G - i) ⟨gv, 0, none⟩ 1 1 ys (by rw [HM1.out, hys]) (fun j u hj => by rw [addrAdd, hkv1.cell]; simpa using hj) (fun j hj => by have he := HE.out; rw [hkN.cell, Array.getElem?_eq_getElem (by omega)]; rfl) (fun j hj => hkN.frozen _) HY.out
     rw [HM1.out] at h
     exact h
   have hGi : ¬ G = i := by omega
   have hGi1 : ¬ G = i + 1 := by omega
   have hci : ¬ cap = i := by omega
   obtain ⟨w2, hw2⟩ : ∃ w2, w1.setCells g2 (i * 10) ys = w2 := ⟨_, rfl⟩
   rw [hw2] at hcpA
   have HW2 := Lib.hid hw2
   have HRC := Lib.hid hRc
   clear hw2 hcap htl hRc
   go_enter Tryz.func84, Tryz.ntmps84
   go_upto_region 11 with (at_builtin; refine Lib.wpList_append_run _ rfl _ _ _ _ rfl _ _ rfl rfl _ _ (HRZ2.out _) ?_)
   clear hcpA
   obtain ⟨cur2, hk2, hs2⟩ := setCells_blk ys (i * 10) w1 g2 38 ROW hkN
   have hch2 := setCells_chg ys (i * 10) w1 g2
   rw [HW2.out] at hk2 hch2
   have hk2d := hk2.drew
   have hcl2 : ∀ j u, xs[j]? = some u → w2.drew.cell? ⟨g, off + j, none⟩ = some u := fun j u hj => (World.cell?_of_block (a := ⟨g, off + j, none⟩) (hch2.block g hkg1.lt (fun h => hgg2 h))).trans (hcl1 j u hj)
   have HCL2 := Lib.hid hcl2
   clear hcl2 hcl1 hcells
   have hcpB : ∀ ty, (Builtin.copy_ #[26, 26] ty #[.slice (some ⟨g2, (i + 1) * 10, none⟩) (n - i) (G - (i + 1)), .slice (some ⟨g, off + i * 10, none⟩) (n - i) (cap - i)]).run Tryz.prog w2.drew = .ok (goInt ((n - i : Nat) : Int)) (w2.drew.setCells g2 ((i + 1) * 10) (xs.drop (i * 10))) := fun ty => by
     have h := run_copy_k tyE w2.drew ty g2 ((i + 1) * 10) (n - i) (G - (i + 1)) ⟨g, off + i * 10, none⟩ (n - i) (cap - i) (xs.drop (i * 10)) (by rw [HDL.out, HM2.out]) (fun j u hj => by rw [addrAdd, Nat.add_assoc]; rw [List.getElem?_drop] at hj; exact HCL2.out _ u hj) (fun j hj => by have he := HE.out; rw [hk2d.cell, Array.getElem?_eq_getElem (by rw [HDL.out] at hj; omega)]; rfl) (fun j hj => hk2d.frozen _) (fun u hu => HX.out u (List.mem_of_mem_drop hu))
     rw [HM2.out] at h
     exact h
   obtain ⟨w3, hw3⟩ : ∃ w3, w2.drew.setCells g2 ((i + 1) * 10) (xs.drop (i * 10)) = w3 := ⟨_, rfl⟩
   rw [hw3] at hcpB
   have HW3 := Lib.hid hw3
   have HCPB := Lib.hid hcpB
   clear hw3 hcpB
   refine wp_region_tree (.path [[.calm 0 false, .calm 1 false, .calm 2 false], [.calm 3 true, .calm 4 false, .calm 5 false, .calm 6 false, .calm 7 false], [.eff 8 none false]]) none (by as_aux_lemma => kernel_rfl) (by as_aux_lemma => kernel_rfl) (by as_aux_lemma => kernel_rfl) ?_
   show wpSegs _ _ _ _ _ _ _ _ _
   refine seg_plain rfl rfl (fun K hK => ?_)
   simp only [sgA, sgB, itAt, sgC, sgD, sgE]
   show wpList _ _ _ [_, _, _] _ _
   go_wp2_with fail
   refine EndQ.normal (hK.go ?_)
   clear hK K
   refine seg_chk rfl rfl (fun K hK => ?_)
   simp only [sgA, sgB, itAt, sgC, sgD, sgE]
   show wpList _ _ _ [_, _, _, _, _] _ _
   go_wp2_with fail
   refine EndQ.normal (hK.go ?_)
   clear hK K
   have hcpB := HCPB.out
   refine seg_plain rfl rfl (fun K hK => ?_)
   simp only [sgA, sgB, itAt, sgC, sgD, sgE]
   show wpList _ _ _ [_] _ _
   go_wp2_with fail
   refine EndQ.normal (hK.go ?_)
   clear hK K
   refine seg_end ?_
   clear hcpB
   go_wp2_with fail
   go_ret
   obtain ⟨cur3, hk3, hs3⟩ := setCells_blk (xs.drop (i * 10)) ((i + 1) * 10) w2.drew g2 38 cur2 hk2d
   have hch3 := setCells_chg (xs.drop (i * 10)) ((i + 1) * 10) w2.drew g2
   rw [HW3.out] at hk3 hch3
   have hB3 : Below w.heap.size w w3 := by
     have ha := Chg.below (B := w.heap.size) hb1 hch2 hb1.size (fun k hk => by omega)
     exact Chg.below ha.drew hch3 ha.drew.size (fun k hk => by omega)
   refine ⟨_, rfl, .inr ⟨g2, 0, G, cur3, by simp, by omega, hk3, hGn, hG63, by rw [hs3, hs2, hRs]; omega, insC_len hxl hys hi, ?_⟩, Chg.of_below hB3, fun k h => .inr (by have h9 : g2 = k := Option.some.inj h; omega)⟩
   have h9 := grow_cells (size := 10) (i := i) (n := n) (xs := xs) (ys := ys) hkN (by rw [hRs]; exact HE.out.2.2.2.2) hxl hys hlt (fun j u hj => HRC.out j u (by (try simp only [Nat.mul_one] at hj); exact hj))
   try simp only [Nat.mul_one] at h9
   rw [HW2.out, HW3.out] at h9
   exact h9
set_option maxHeartbeats 4000000 in
set_option maxRecDepth 100000 in
theorem insertS_any (B gv n i : Nat) (v : Value) (xs ys : List Value) (w : World) (hv : Ro w B 3 35 v n xs) (hi : i ≤ n) (hn : n ≤ 100000) (hk : Blk w gv 35 ys.toArray) (hys : ys.length = 3)
   (hx1 : ∀ u ∈ xs, u.oneCell' = true) (hy1 : ∀ u ∈ ys, u.oneCell' = true) (hne : ∀ k, v.ownBlock = some k → k ≠ gv) (hB : B ≤ w.heap.size) :
   Calls Tryz.prog 34 #[v, .int .i64 (i : Int), .slice (some ⟨gv, 0, none⟩) 1 1] w fun e w' => ∃ v', e = .returned v' ∧ Ro w' B 3 35 v' (n + 1) (insC 3 i xs ys) ∧ Chg (fun k => v.ownBlock = some k) w w' ∧ ∀ k, v'.ownBlock = some k → v.ownBlock = some k ∨ w.heap.size ≤ k := by
 have HV := Lib.hid hv
 have HNE := Lib.hid hne
 have HX := Lib.hid hx1
 have HY := Lib.hid hy1
 have hxl := hv.len
 have hyS : Sl w (fun _ => True) 3 (.slice (some ⟨gv, 0, none⟩) 1 1) 1 ys := by
   refine ⟨_, _, rfl, Nat.le_refl _, by unfold maxLen; omega, by omega, (fun h => by cases h), fun _ => ⟨_, rfl, trivial, fun j u hu => ?_⟩⟩
   rw [addrAdd, hk.cell]
   simpa using hu
 rcases hv with ⟨rfl, rfl, rfl⟩ | ⟨g, off, cap, cur, rfl, hBg, hkG, hn1, hn2, hn3, -, hcells⟩
 · obtain rfl : i = 0 := by omega
   clear hx1 hy1 hne hxl
   go_enter Tryz.func34, Tryz.ntmps34
   go_wp2_with (at_builtin; refine wpList_append_ro tyS rfl (.tmp 23) (.tmp 24) rfl B (.slice none 0 0) 0 [] rfl (Ro.nil _ _ _ _) hB (by omega) _ _ 1 ys rfl hyS (by omega) HY.out ?_; intro v' w' h1 h2 h3)
   go_ret
   exact ⟨_, rfl, by simpa [insC] using h1, h2, h3⟩
 clear hx1 hy1 hne
 by_cases hin : i = n
 · -- << tail
   subst hin
   have hvo := HV.out
   have ht : xs.take (i * 3) = xs := List.take_of_length_le (by omega)
   have hd : xs.drop (i * 3) = [] := List.drop_eq_nil_of_le (by omega)
   have HR := Lib.hid (show insC 3 i xs ys = xs ++ ys by unfold insC; rw [ht, hd, List.append_nil])
   clear ht hd hcells
   go_enter Tryz.func34, Tryz.ntmps34
   go_wp2_with (at_builtin; refine wpList_append_ro tyS rfl (.tmp 23) (.tmp 24) rfl B _ i xs rfl hvo hB (by omega) _ _ 1 ys rfl hyS (by omega) HY.out ?_; intro v' w' h1 h2 h3)
   all_goals (go_ret; exact ⟨_, rfl, by rw [HR.out]; exact h1, h2, h3⟩)
 have hlt : i < n := by omega
 have hbi : ((i : Int) == (n : Int)) = false := by rw [beq_eq_false_iff_ne]; omega
 clear hin
 by_cases hroom : n + 1 ≤ cap
 · skip
   have hc1 : ¬ cap = i := by omega
   have hc2 : ¬ cap = i + 1 := by omega
   have hc3 : (n : Int) + 1 ≤ (cap : Int) := by omega
   have hdl : (xs.drop (i * 3)).length = (n - i) * 3 := by rw [List.length_drop, hxl, Nat.sub_mul]; try simp only [Nat.mul_one]
   have e3 : i * 3 + 3 ≤ n * 3 := by have := Nat.mul_le_mul_right 3 (show i + 1 ≤ n from hlt); omega
   have e4 : n * 3 + 3 ≤ cap * 3 := by have := Nat.mul_le_mul_right 3 hroom; omega
   have hgg : gv ≠ g := fun h => HNE.out g rfl h.symm
   have hov : ∀ lb cb, (callFunc 78 #[.slice (some ⟨gv, 0, none⟩) 1 1, .slice (some ⟨g, off + (i + 1) * 3, none⟩) lb cb]).run Tryz.prog w = .ok (.value (.bool false)) w := fun lb cb => by
     obtain ⟨i0, z, hi0, -, h10, -⟩ := (tyS).info
     rw [run_callFunc_extern Tryz.func78 (by kernel_rfl) (by kernel_rfl) (by kernel_rfl) (e := Extern.SlicesOverlaps.overlaps #[25, 25] #[4]) (by kernel_rfl),
       Lib.run_overlaps_apart w 25 4 35 (tyS).sl 3 (fun w => by simp [sizeOf, typeInfo, hi0, h10]) ⟨gv, 0, none⟩ ⟨g, off + (i + 1) * 3, none⟩ 1 1 lb cb hgg 35 35 ys.toArray.size cur.size hk.shp hkG.shp (by omega) (hk.frozen 0) (hk.frozen _)]
     rfl
   clear e3 e4
   go_enter Tryz.func34, Tryz.ntmps34
   go_upto_region 15 with fail
   clear hov
   have HE := Lib.hid (show (i + 1) * 3 = i * 3 + 3 ∧ (n - i) * 3 = n * 3 - i * 3 ∧ i * 3 + 3 ≤ n * 3 ∧ n * 3 + 3 ≤ cap * 3 from ⟨Nat.succ_mul i 3, Nat.sub_mul n i 3, by have := Nat.mul_le_mul_right 3 (show i + 1 ≤ n from hlt); omega, by have := Nat.mul_le_mul_right 3 hroom; omega⟩)
   have HDL := Lib.hid hdl
   have HMN := Lib.hid (show Nat.min (n + 1 - i) (n - i) = n - i from Nat.min_eq_right (by omega))
   clear hdl
   have hkG0 := hkG.drew
   have hc0 : ∀ j u, xs[j]? = some u → w.drew.cell? ⟨g, off + j, none⟩ = some u := hcells
   have HC0 := Lib.hid hc0
   clear hc0
   refine wp_region_tree (.path [[.calm 0 false, .calm 1 false, .calm 2 false], [.calm 3 true, .calm 4 false, .calm 5 false, .calm 6 false, .calm 7 false], [.eff 8 none false]]) none (by as_aux_lemma => kernel_rfl) (by as_aux_lemma => kernel_rfl) (by as_aux_lemma => kernel_rfl) ?_
   show wpSegs _ _ _ _ _ _ _ _ _
   refine seg_plain rfl rfl (fun K hK => ?_)
   simp only [sgA, sgB, itAt, sgC, sgD, sgE]
   show wpList _ _ _ [_, _, _] _ _
   go_wp2_with fail
   refine EndQ.normal (hK.go ?_)
   clear hK K
   refine seg_chk rfl rfl (fun K hK => ?_)
   simp only [sgA, sgB, itAt, sgC, sgD, sgE]
   show wpList _ _ _ [_, _, _, _, _] _ _
   go_wp2_with fail
   refine EndQ.normal (hK.go ?_)
   clear hK K
   refine seg_plain rfl rfl (fun K hK => ?_)
   simp only [sgA, sgB, itAt, sgC, sgD, sgE]
   show wpList _ _ _ [_] _ _
   refine (wpList_copy_k tyS rfl (.tmp 73) (.tmp 76) rfl g (off + (i + 1) * 3) _ _ ⟨g, off + i * 3, none⟩ _ _ rfl rfl (xs.drop (i * 3)) (by rw [HDL.out, HMN.out]) (fun j u hj => by rw [addrAdd, Nat.add_assoc]; rw [List.getElem?_drop] at hj; first | exact HC0.out _ u hj | (rw [Nat.mul_one] at hj; exact HC0.out _ u hj)) (fun j hj => by have he := HE.out; rw [hkG0.cell, Array.getElem?_eq_getElem (by rw [HDL.out] at hj; omega)]; rfl) (fun j hj => hkG0.frozen _) (fun u hu => HX.out u (List.mem_of_mem_drop hu)) ?_)
   go_wp2_with fail
   refine EndQ.normal (hK.go ?_)
   clear hK K
   refine seg_end ?_
   obtain ⟨cur1, hk1, hs1⟩ := setCells_blk (xs.drop (i * 3)) (off + (i + 1) * 3) w.drew g 35 cur hkG0
   have hch1 : Chg (· = g) w (w.drew.setCells g (off + (i + 1) * 3) (xs.drop (i * 3))) := ((Chg.refl _ w).drew).trans (setCells_chg _ _ _ _)
   have hkv := hch1.blk hk hgg
   have HW := Lib.hid (ins_cells (size := 3) hkG0 (by have he := HE.out; have := Nat.succ_mul n 3; omega) hxl hys hlt HC0.out)
   have HM1 := Lib.hid (show Nat.min 1 (n + 1 - i) = 1 from Nat.min_eq_left (by omega))
   generalize hw1 : w.drew.setCells g (off + (i + 1) * 3) (xs.drop (i * 3)) = w1 at *
   have HW1 := Lib.hid hw1
   clear hw1
   have hcp : ∀ ty, (Builtin.copy_ #[25, 25] ty #[.slice (some ⟨g, off + i * 3, none⟩) (n + 1 - i) (cap - i), .slice (some ⟨gv, 0, none⟩) 1 1]).run Tryz.prog w1 = .ok (goInt 1) (w1.setCells g (off + i * 3) ys) := fun ty => by
     have h := run_copy_k tyS w1 ty g (off + i * 3) (n + 1 - i) (cap - i) ⟨gv, 0, none⟩ 1 1 ys (by rw [HM1.out, hys]) (fun j u hj => by rw [addrAdd, hkv.cell]; simpa using hj) (fun j hj => by have he := HE.out; rw [hk1.cell, Array.getElem?_eq_getElem (by omega)]; rfl) (fun j hj => hk1.frozen _) HY.out
     rw [HM1.out] at h
     exact h
   go_wp2_with fail
   go_ret
   obtain ⟨cur2, hk2, hs2⟩ := setCells_blk ys (off + i * 3) w1 g 35 cur1 hk1
   have hch2 := hch1.trans (setCells_chg ys (off + i * 3) w1 g)
   refine ⟨_, rfl, .inr ⟨g, off, cap, cur2, by simp, hBg, hk2, hroom, hn2, by omega, insC_len hxl hys hi, ?_⟩, hch2.mono fun k _ e => by rw [e]; rfl, fun k h => .inl h⟩
   have h9 := HW.out
   try simp only [Nat.mul_one] at h9
   try simp only [Nat.mul_one]
   try rw [HW1.out] at h9
   exact h9
 · skip
   have hcap : cap = n := by omega
   have hcc : (cap : Int) < (n : Int) + 1 := by omega
   obtain ⟨i0, z, hi0, hz, h10, hby, hzc, hz1⟩ := (tyS).info
   have htl : (xs.take (i * 3)).length = i * 3 := by rw [List.length_take, hxl]; have := Nat.mul_le_mul_right 3 (Nat.le_of_lt hlt); omega
   have hold : (Builtin.firstCells i0.size i (.slice (some ⟨g, off, none⟩) i cap)).run Tryz.prog w.drew = .ok (xs.take (i * 3)).toArray w.drew := by
     rw [h10]
     exact run_firstCells_some w.drew 3 i ⟨g, off, none⟩ i cap (xs.take (i * 3)) (by rw [htl]; try rw [Nat.mul_one]) (fun j v hj => by
       rw [addrAdd]
       rw [List.getElem?_take] at hj
       split at hj
       · exact hcells j v hj
       · cases hj)
   have hrz : ∀ ty, (Builtin.append_ #[25, 3] ty #[.slice (some ⟨g, off, none⟩) i cap, .int .i64 ((n : Int) + 1 - (i : Int))]).run Tryz.prog w =
       .ok (.slice (some ⟨w.heap.size, 0, none⟩) (n + 1) (grownCap w (n + 1) cap 35)) (w.drew.alloc (.cells ((xs.take (i * 3)).toArray ++ Builtin.zeroCells z.cells (n + 1 - i) ++ Builtin.zeroCells z.cells (grownCap w (n + 1) cap 35 - (n + 1))) 35)) := fun ty => by
     have h := Lib.run_append_grow_zeros w 25 3 ty 35 i0 z .i64 .i64 (tyS).sl Tryz.underlying3 hi0 hz (some ⟨g, off, none⟩) i cap (xs.take (i * 3)) hold (n + 1 - i) (by omega) (by omega) (by omega) (by omega)
       (Nat.le_trans (Nat.mul_le_mul (show n + 1 - i ≤ 200000 by omega) hby) (by decide)) (growslice_fits (by omega) (Nat.le_trans (Nat.mul_le_mul (show i + (n + 1 - i) ≤ 200000 by omega) hby) (by decide)))
     rw [show i + (n + 1 - i) = n + 1 by omega, show ((n + 1 - i : Nat) : Int) = (n : Int) + 1 - (i : Int) by omega] at h
     exact h
   have hGn : n + 1 ≤ grownCap w (n + 1) cap 35 := grownCap_ge w _ _ _
   have hG63 : grownCap w (n + 1) cap 35 ≤ 9223372036854775807 := by
     have := grownCap_le_maxLen w (n + 1) cap 35 (by unfold maxLen; omega)
     unfold maxLen at this
     omega
   generalize grownCap w (n + 1) cap 35 = G at *
   obtain ⟨ROW, hROW⟩ : ∃ ROW : Array Value, (xs.take (i * 3)).toArray ++ Builtin.zeroCells z.cells (n + 1 - i) ++ Builtin.zeroCells z.cells (G - (n + 1)) = ROW := ⟨_, rfl⟩
   have hRs : ROW.size = G * 3 := by
     rw [← hROW]
     simp only [Array.size_append, List.size_toArray, htl, Builtin.zeroCells, hzc, Array.size_map, Array.size_range]
     have a1 : (n + 1 - i) * 3 + i * 3 = (n + 1) * 3 := by rw [← Nat.add_mul]; congr 1; omega
     have a2 : (G - (n + 1)) * 3 + (n + 1) * 3 = G * 3 := by rw [← Nat.add_mul]; congr 1; omega
     omega
   have hRc : ∀ j u, (xs.take (i * 3))[j]? = some u → ROW[j]? = some u := fun j u hj => by
     have hj2 := (List.getElem?_eq_some_iff.1 hj).1
     rw [← hROW, Array.getElem?_append_left (by simp; omega), Array.getElem?_append_left (by simpa using hj2)]
     simpa using hj
   rw [hROW] at hrz
   obtain ⟨w1, hw1⟩ : ∃ w1, w.drew.alloc (.cells ROW 35) = w1 := ⟨_, rfl⟩
   have hkN : Blk w1 w.heap.size 35 ROW := by rw [← hw1]; exact Blk.new w.drew _ _
   have hb1 : Below w.heap.size w w1 := by rw [← hw1]; exact ((Below.refl w.heap.size w).drew).alloc (Nat.le_refl _) _
   rw [hw1] at hrz
   clear hw1 hROW hold
   have hg2l := hkN.lt
   have hgl := hkG.lt
   have hvl := hk.lt
   have HRZ := Lib.hid hrz
   clear hrz
   obtain ⟨g2, hg2⟩ : ∃ g2, w.heap.size = g2 := ⟨_, rfl⟩
   have HRZ2 : Hid (∀ ty, (Builtin.append_ #[25, 3] ty #[.slice (some ⟨g, off, none⟩) i cap, .int .i64 ((n : Int) + 1 - (i : Int))]).run Tryz.prog w = .ok (.slice (some ⟨g2, 0, none⟩) (n + 1) G) w1) := by rw [← hg2]; exact HRZ
   rw [hg2] at hkN hg2l
   have hgg2 : g ≠ g2 := by omega
   have hgv2 : gv ≠ g2 := by omega
   have hkv1 := hk.below' hb1
   have hkg1 := hkG.below' hb1
   have hcl1 : ∀ j u, xs[j]? = some u → w1.cell? ⟨g, off + j, none⟩ = some u := fun j u hj => (World.cell?_of_block (a := ⟨g, off + j, none⟩) (hb1.block g hgl)).trans (hcells j u hj)
   have HE := Lib.hid (show (i + 1) * 3 = i * 3 + 3 ∧ (n - i) * 3 = n * 3 - i * 3 ∧ i * 3 + 3 ≤ n * 3 ∧ (n + 1) * 3 = n * 3 + 3 ∧ (n + 1) * 3 ≤ G * 3 from
     ⟨Nat.succ_mul i 3, Nat.sub_mul n i 3, by have := Nat.mul_le_mul_right 3 (show i + 1 ≤ n from hlt); omega, Nat.succ_mul n 3, Nat.mul_le_mul_right 3 hGn⟩)
   have HM1 := Lib.hid (show Nat.min 1 (n + 1 - i) = 1 from Nat.min_eq_left (by omega))
   have HM2 := Lib.hid (show Nat.min (n - i) (n - i) = n - i from Nat.min_self _)
   have HDL := Lib.hid (show (xs.drop (i * 3)).length = (n - i) * 3 by rw [List.length_drop, hxl, Nat.sub_mul]; try simp only [Nat.mul_one])
   have hcpA : ∀ ty, (Builtin.copy_ #[25, 25] ty #[.slice (some ⟨g2, i * 3, none⟩) (n + 1 - i) (G - i), .slice (some ⟨gv, 0, none⟩) 1 1]).run Tryz.prog w1 = .ok (goInt 1) (w1.setCells g2 (i * 3) ys) := fun ty => by
     have h := run_copy_k tyS w1 ty g2 (i * 3) (n + 1 - i) (G - i) ⟨gv, 0, none⟩ 1 1 ys (by rw [HM1.out, hys]) (fun j u hj => by rw [addrAdd, hkv1.cell]; simpa using hj) (fun j hj => by have he := HE.out; rw [hkN.cell, Array.getElem?_eq_getElem (by omega)]; rfl) (fun j hj => hkN.frozen _) HY.out
     rw [HM1.out] at h
     exact h
   have hGi : ¬ G = i := by omega
   have hGi1 : ¬ G = i + 1 := by omega
   have hci : ¬ cap = i := by omega
   obtain ⟨w2, hw2⟩ : ∃ w2, w1.setCells g2 (i * 3) ys = w2 := ⟨_, rfl⟩
   rw [hw2] at hcpA
   have HW2 := Lib.hid hw2
   have HRC := Lib.hid hRc
   clear hw2 hcap htl hRc
   go_enter Tryz.func34, Tryz.ntmps34
   go_upto_region 11 with (at_builtin; refine Lib.wpList_append_run _ rfl _ _ _ _ rfl _ _ rfl rfl _ _ (HRZ2.out _) ?_)
   clear hcpA
   obtain ⟨cur2, hk2, hs2⟩ := setCells_blk ys (i * 3) w1 g2 35 ROW hkN
   have hch2 := setCells_chg ys (i * 3) w1 g2
   rw [HW2.out] at hk2 hch2
   have hk2d := hk2.drew
   have hcl2 : ∀ j u, xs[j]? = some u → w2.drew.cell? ⟨g, off + j, none⟩ = some u := fun j u hj => (World.cell?_of_block (a := ⟨g, off + j, none⟩) (hch2.block g hkg1.lt (fun h => hgg2 h))).trans (hcl1 j u hj)
   have HCL2 := Lib.hid hcl2
   clear hcl2 hcl1 hcells
   have hcpB : ∀ ty, (Builtin.copy_ #[25, 25] ty #[.slice (some ⟨g2, (i + 1) * 3, none⟩) (n - i) (G - (i + 1)), .slice (some ⟨g, off + i * 3, none⟩) (n - i) (cap - i)]).run Tryz.prog w2.drew = .ok (goInt ((n - i : Nat) : Int)) (w2.drew.setCells g2 ((i + 1) * 3) (xs.drop (i * 3))) := fun ty => by
     have h := run_copy_k tyS w2.drew ty g2 ((i + 1) * 3) (n - i) (G - (i + 1)) ⟨g, off + i * 3, none⟩ (n - i) (cap - i) (xs.drop (i * 3)) (by rw [HDL.out, HM2.out]) (fun j u hj => by rw [addrAdd, Nat.add_assoc]; rw [List.getElem?_drop] at hj; exact HCL2.out _ u hj) (fun j hj => by have he := HE.out; rw [hk2d.cell, Array.getElem?_eq_getElem (by rw [HDL.out] at hj; omega)]; rfl) (fun j hj => hk2d.frozen _) (fun u hu => HX.out u (List.mem_of_mem_drop hu))
     rw [HM2.out] at h
     exact h
   obtain ⟨w3, hw3⟩ : ∃ w3, w2.drew.setCells g2 ((i + 1) * 3) (xs.drop (i * 3)) = w3 := ⟨_, rfl⟩
   rw [hw3] at hcpB
   have HW3 := Lib.hid hw3
   have HCPB := Lib.hid hcpB
   clear hw3 hcpB
   refine wp_region_tree (.path [[.calm 0 false, .calm 1 false, .calm 2 false], [.calm 3 true, .calm 4 false, .calm 5 false, .calm 6 false, .calm 7 false], [.eff 8 none false]]) none (by as_aux_lemma => kernel_rfl) (by as_aux_lemma => kernel_rfl) (by as_aux_lemma => kernel_rfl) ?_
   show wpSegs _ _ _ _ _ _ _ _ _
   refine seg_plain rfl rfl (fun K hK => ?_)
   simp only [sgA, sgB, itAt, sgC, sgD, sgE]
   show wpList _ _ _ [_, _, _] _ _
   go_wp2_with fail
   refine EndQ.normal (hK.go ?_)
   clear hK K
   refine seg_chk rfl rfl (fun K hK => ?_)
   simp only [sgA, sgB, itAt, sgC, sgD, sgE]
   show wpList _ _ _ [_, _, _, _, _] _ _
   go_wp2_with fail
   refine EndQ.normal (hK.go ?_)
   clear hK K
   have hcpB := HCPB.out
   refine seg_plain rfl rfl (fun K hK => ?_)
   simp only [sgA, sgB, itAt, sgC, sgD, sgE]
   show wpList _ _ _ [_] _ _
   go_wp2_with fail
   refine EndQ.normal (hK.go ?_)
   clear hK K
   refine seg_end ?_
   clear hcpB
   go_wp2_with fail
   go_ret
   obtain ⟨cur3, hk3, hs3⟩ := setCells_blk (xs.drop (i * 3)) ((i + 1) * 3) w2.drew g2 35 cur2 hk2d
   have hch3 := setCells_chg (xs.drop (i * 3)) ((i + 1) * 3) w2.drew g2
   rw [HW3.out] at hk3 hch3
   have hB3 : Below w.heap.size w w3 := by
     have ha := Chg.below (B := w.heap.size) hb1 hch2 hb1.size (fun k hk => by omega)
     exact Chg.below ha.drew hch3 ha.drew.size (fun k hk => by omega)
   refine ⟨_, rfl, .inr ⟨g2, 0, G, cur3, by simp, by omega, hk3, hGn, hG63, by rw [hs3, hs2, hRs]; omega, insC_len hxl hys hi, ?_⟩, Chg.of_below hB3, fun k h => .inr (by have h9 : g2 = k := Option.some.inj h; omega)⟩
   have h9 := grow_cells (size := 3) (i := i) (n := n) (xs := xs) (ys := ys) hkN (by rw [hRs]; exact HE.out.2.2.2.2) hxl hys hlt (fun j u hj => HRC.out j u (by (try simp only [Nat.mul_one] at hj); exact hj))
   try simp only [Nat.mul_one] at h9
   rw [HW2.out, HW3.out] at h9
   exact h9
end Go.Proofs.YthhfliokjbbbbaaGreatDoor
