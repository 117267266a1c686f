/- slices.DeleteFunc at events, with the closure of Ack. -/
import Derived.Test.YtfdobpmmgmnfnaaDoorAck1
namespace Go.Proofs.YtfdobpmmgmnfnaaDoor
open Go Go.RowKit

def keepL (s : List Int) (l : List EV) : List EV := l.filter fun e => !hasI s e.seq
theorem keepL_take {s : List Int} {l : List EV} {j : Nat} {e : EV} (h : l[j]? = some e) : keepL s (l.take (j + 1)) = keepL s (l.take j) ++ (if hasI s e.seq then [] else [e]) := by
  obtain ⟨hj, he⟩ := List.getElem?_eq_some_iff.1 h
  rw [List.take_add_one, h]
  unfold keepL
  rw [List.filter_append]
  cases hq : hasI s e.seq <;> simp_all
theorem keepL_all {s : List Int} {l : List EV} (h : ∀ (j : Nat) (x : EV), l[j]? = some x → hasI s x.seq = false) : keepL s l = l := by
  unfold keepL
  rw [List.filter_eq_self]
  intro x hx
  obtain ⟨j, hj, e⟩ := List.getElem_of_mem hx
  have := h j x (by rw [List.getElem?_eq_getElem hj, e])
  simp [this]
theorem keepL_first {s : List Int} {l : List EV} {k : Nat} {e : EV} (hk : l[k]? = some e) (he : hasI s e.seq = true) (h : ∀ (j : Nat) (x : EV), j < k → l[j]? = some x → hasI s x.seq = false) : keepL s (l.take (k + 1)) = l.take k := by
  rw [keepL_take hk, he, if_pos rfl, List.append_nil]
  refine keepL_all fun j x hx => ?_
  rw [List.getElem?_take] at hx
  split at hx
  · exact h j x (by assumption) hx
  · cases hx
theorem keepL_le (s : List Int) (l : List EV) : (keepL s l).length ≤ l.length := List.length_filter_le _ _
theorem there10 {w : World} {g o : Nat} {t : TypeId} {cur : Array Value} (h : Blk w g t cur) (ho : o + 10 ≤ cur.size) : ∃ u0 u1 u2 u3 u4 u5 u6 u7 u8 u9,
    (w.cell? ⟨g, o, none⟩ = some u0 ∧ w.cell? ⟨g, o + 1, none⟩ = some u1 ∧ w.cell? ⟨g, o + 2, none⟩ = some u2 ∧ w.cell? ⟨g, o + 3, none⟩ = some u3 ∧ w.cell? ⟨g, o + 4, none⟩ = some u4) ∧
    w.cell? ⟨g, o + 5, none⟩ = some u5 ∧ w.cell? ⟨g, o + 6, none⟩ = some u6 ∧ w.cell? ⟨g, o + 7, none⟩ = some u7 ∧ w.cell? ⟨g, o + 8, none⟩ = some u8 ∧ w.cell? ⟨g, o + 9, none⟩ = some u9 := by
  have hc : ∀ i, i < 10 → w.cell? ⟨g, o + i, none⟩ = some (cur.getD (o + i) undef) := fun i hi => by
    rw [h.cell, Array.getElem?_eq_getElem (by omega)]
    simp [Array.getD, show o + i < cur.size by omega]
  exact ⟨_, _, _, _, _, _, _, _, _, _, ⟨hc 0 (by omega), hc 1 (by omega), hc 2 (by omega), hc 3 (by omega), hc 4 (by omega)⟩, hc 5 (by omega), hc 6 (by omega), hc 7 (by omega), hc 8 (by omega), hc 9 (by omega)⟩
theorem frozen10 {w : World} {g : Nat} {t : TypeId} {cur : Array Value} (h : Blk w g t cur) (o : Nat) :
    (w.frozen? ⟨g, o, none⟩ = false ∧ w.frozen? ⟨g, o + 1, none⟩ = false ∧ w.frozen? ⟨g, o + 2, none⟩ = false ∧ w.frozen? ⟨g, o + 3, none⟩ = false ∧ w.frozen? ⟨g, o + 4, none⟩ = false) ∧
    w.frozen? ⟨g, o + 5, none⟩ = false ∧ w.frozen? ⟨g, o + 6, none⟩ = false ∧ w.frozen? ⟨g, o + 7, none⟩ = false ∧ w.frozen? ⟨g, o + 8, none⟩ = false ∧ w.frozen? ⟨g, o + 9, none⟩ = false :=
  ⟨⟨h.frozen _, h.frozen _, h.frozen _, h.frozen _, h.frozen _⟩, h.frozen _, h.frozen _, h.frozen _, h.frozen _, h.frozen _⟩
theorem ev_zero1 : (Tryd.prog.info? 40).map (fun i => i.zero.map (fun z => z.cells.toList.all Value.oneCell')) = some (some true) := by kernel_rfl
theorem run_clear_ev (w : World) (ty : TypeId) (g o n c : Nat) (cur : Array Value) (h : Blk w g 40 cur) (ho : o + n * 10 ≤ cur.size) (hn : 0 < n) :
    ∃ vs : List Value, vs.length = n * 10 ∧ (Builtin.clear_ #[25] ty #[.slice (some ⟨g, o, none⟩) n c]).run Tryd.prog w = .ok (.tuple #[]) (w.setCells g o vs) := by
  obtain ⟨i, z, hi, hz, h10, hby, hzc⟩ := ev_info'
  have hone : z.cells.toList.all Value.oneCell' = true := by
    have := ev_zero1
    rw [hi] at this
    simpa [hz] using this
  have hzv : (zeroValue 40).run Tryd.prog w = .ok z w := by simp [zeroValue, typeInfo, hi, hz]
  have hlen : (Builtin.zeroCells z.cells n).toList.length = n * 10 := by simp [Builtin.zeroCells, hzc]
  refine ⟨(Builtin.zeroCells z.cells n).toList, hlen, ?_⟩
  have hst := run_storeCells_cells (P := Tryd.prog) g o (Builtin.zeroCells z.cells n).toList 0 w (fun j hj => by
      rw [hlen] at hj
      rw [h.cell, Array.getElem?_eq_getElem (by omega)]; rfl) (fun j hj => h.frozen _) (fun v hv => by
      simp only [Builtin.zeroCells, Array.toList_map, List.mem_map] at hv
      obtain ⟨k, hk, rfl⟩ := hv
      have hk10 : k % z.cells.size < z.cells.size := Nat.mod_lt _ (by omega)
      rw [getElem!_pos z.cells (k % z.cells.size) hk10]
      exact List.all_eq_true.1 hone _ (Array.getElem_mem_toList hk10))
  simp only [Nat.add_zero] at hst
  obtain ⟨m, rfl⟩ : ∃ m, n = m + 1 := ⟨n - 1, by omega⟩
  simp [Builtin.clear_, run_underlying Tryd.underlying25, hzv, hst]

def DRel (w : World) (g off cap : Nat) (s : List Int) (l : List EV) (si sj : Value) (wr : World) : Prop :=
  ∃ (i j : Nat) (cur : Array Value), si = .int .i64 (i : Int) ∧ sj = .int .i64 (j : Int) ∧ i < j ∧ j ≤ l.length ∧ i = (keepL s (l.take j)).length ∧ Blk wr g 40 cur ∧ off + cap * 10 ≤ cur.size ∧
    (∀ a e, (keepL s (l.take j))[a]? = some e → EvAt wr ⟨g, off + a * 10, none⟩ e) ∧ (∀ a e, j ≤ a → l[a]? = some e → EvAt wr ⟨g, off + a * 10, none⟩ e) ∧ Chg (· = g) w wr
theorem EvAt.keep {w w' : World} {g o : Nat} {e : EV} (h : EvAt w ⟨g, o, none⟩ e) (hb : w'.heap[g]? = w.heap[g]?) : EvAt w' ⟨g, o, none⟩ e := fun j v hv => by
  have := h j v hv
  rw [Addr.add_mid] at this ⊢
  exact (World.cell?_of_block (a := ⟨g, o + j, none⟩) hb).trans this
theorem EvAt.far {w : World} {g o o' : Nat} {e : EV} {vs : List Value} (h : EvAt w ⟨g, o, none⟩ e) (ho : o + 10 ≤ o' ∨ o' + vs.length ≤ o) : EvAt (w.setCells g o' vs) ⟨g, o, none⟩ e := fun j v hv => by
  have hj : j < 10 := by have := (List.getElem?_eq_some_iff.1 hv).1; rwa [evCells_len] at this
  have := h j v hv
  rw [Addr.add_mid] at this ⊢
  rw [World.cell?_setCells_out _ _ _ _ _ (fun _ _ => by simp; omega)]
  exact this
theorem EvAt.set_ {w : World} {g o : Nat} {t : TypeId} {cur : Array Value} (e : EV) (h : Blk w g t cur) (ho : o + 10 ≤ cur.size) : EvAt (w.setCells g o (evCells e)) ⟨g, o, none⟩ e := fun j v hv => by
  obtain ⟨hj, he⟩ := List.getElem?_eq_some_iff.1 hv
  rw [Addr.add_mid]
  have := World.cell?_setCells_in g (evCells e) o w (fun i hi => by
    rw [evCells_len] at hi
    rw [h.cell, Array.getElem?_eq_getElem (by omega)]
    rfl) j hj
  rw [this, he]
theorem os_cells {w : World} {g off n cap : Nat} {l : List EV} (h : ∀ j u, (l.flatMap evCells)[j]? = some u → w.cell? ⟨g, off + j, none⟩ = some u) : ∀ a e, l[a]? = some e → EvAt w ⟨g, off + a * 10, none⟩ e := fun a e ha j v hv => by
  have hj : j < 10 := by have := (List.getElem?_eq_some_iff.1 hv).1; rwa [evCells_len] at this
  rw [Addr.add_mid, Nat.add_assoc]
  exact h _ v (by rw [evs_at l a j e ha hj]; exact hv)
theorem cells_os {w : World} {g off : Nat} : ∀ (l : List EV), (∀ a e, l[a]? = some e → EvAt w ⟨g, off + a * 10, none⟩ e) → ∀ j u, (l.flatMap evCells)[j]? = some u → w.cell? ⟨g, off + j, none⟩ = some u := by
  intro l h j u hu
  have hj : j < l.length * 10 := by have := (List.getElem?_eq_some_iff.1 hu).1; rwa [evs_len] at this
  have hq : j / 10 < l.length := by omega
  have h1 := h (j / 10) _ (List.getElem?_eq_getElem hq) (j % 10) u (by
    rw [← evs_at l (j / 10) (j % 10) _ (List.getElem?_eq_getElem hq) (by omega), show j / 10 * 10 + j % 10 = j by omega]
    exact hu)
  rw [Addr.add_mid, show off + j / 10 * 10 + j % 10 = off + j by omega] at h1
  exact h1

set_option maxHeartbeats 4000000 in
set_option maxRecDepth 100000 in
theorem deleteFunc_any (av : Nat → Prop) (sb B : Nat) (vs v : Value) (s : List Int) (l : List EV) (w : World) (hk : Blk w sb 24 #[vs]) (hvs : Is w av vs s) (hv : Os w B v l) (hsb : v.ownBlock ≠ some sb) (hsv : ∀ k, av k → v.ownBlock ≠ some k) (hl : l.length ≤ 1000000) :
    Calls Tryd.prog 35 #[v, .func (.func 36) #[] #[.pointer (some ⟨sb, 0, none⟩)]] w fun r w' =>
      ∃ v', r = .returned v' ∧ Os w' B v' (keepL s l) ∧ Chg (fun k => v.ownBlock = some k) w w' ∧ (∀ k, v'.ownBlock = some k → v.ownBlock = some k) := by
  have HE := Lib.hid hv.evs
  have HO := Lib.hid hv
  rcases hv with ⟨rfl, rfl⟩ | ⟨g, off, cap, cur, rfl, hBg, hkG, hn1, hn2, hn3, hcells⟩
  · go_enter Tryd.func35, Tryd.ntmps35
    go_wp2_with fail
    refine (indexFunc_any av (B ≤ ·) sb vs _ s [] w hk hvs HE.out).mono ?_
    rintro r w1 ⟨hr, hb1⟩
    have hr2 : r = .returned (.int .i64 (-1)) := by
      rcases hr with ⟨k, e, -, hke, -⟩ | ⟨h, -⟩
      · simp at hke
      · exact h
    rw [hr2]
    go_wp2_with fail
    go_ret
    exact ⟨_, rfl, .inl ⟨rfl, rfl⟩, .of_below hb1, fun k h => h⟩
  go_enter Tryd.func35, Tryd.ntmps35
  go_wp2_with fail
  refine (indexFunc_any av (B ≤ ·) sb vs _ s l w hk hvs HE.out).mono ?_
  rintro r w1 ⟨hr, hb1⟩
  have hO1 := Lib.hid (HO.out.below hb1)
  have hk1 := hk.below' hb1
  replace hkG := hkG.below' hb1
  have hC1 : Chg (· = g) w w1 := .of_below hb1
  have HS1 := Lib.hid (hvs.below hb1)
  have hEv : ∀ a e, l[a]? = some e → EvAt w1 ⟨g, off + a * 10, none⟩ e := fun a e h => (os_cells (n := l.length) (cap := cap) hcells a e h).keep (hb1.block g (by have := HO.out.row g rfl; exact this.2))
  clear hvs HE HO hk hcells hb1
  rcases hr with ⟨k, e, hr, hke, hq, hall⟩ | ⟨hr, hall⟩
  rotate_left 1
  · rw [hr]
    go_wp2_with fail
    go_ret
    exact ⟨_, rfl, by rw [keepL_all hall]; exact hO1.out, hC1.mono fun k _ e => by rw [e]; rfl, fun k h => h⟩
  rw [hr]
  have hklt : k < l.length := (List.getElem?_eq_some_iff.1 hke).1
  have hne : ((k : Int) == -1) = false := by rw [beq_eq_false_iff_ne]; omega
  have HK := Lib.hid (keepL_first hke hq hall)
  have HL : Hid ((l.take k).length = k) := Lib.hid (by rw [List.length_take]; omega)
  clear hq hall hke hr
  go_wp2_with fail
  go_loopw [5, 6] (fun i j wr => DRel w1 g off cap s l i j wr) (fun _ j _ => l.length - (intOf j).toNat)
  case atStart => exact ⟨k, k + 1, cur, rfl, by simp, by omega, by omega, by rw [HK.out, HL.out], hkG, hn3, fun a e h => hEv a e (by
      rw [HK.out, List.getElem?_take] at h
      split at h
      · exact h
      · cases h), fun a e _ h => hEv a e h, Chg.refl _ _⟩
  case round =>
    clear hEv hkG HK HL hklt hne
    obtain ⟨i, j, cur, rfl, rfl, hij, hjl, hil, hkG, hn3, hlow, hhigh, hch⟩ := hrel
    have HI := Lib.hid hil
    have HLow := Lib.hid hlow
    have HHigh := Lib.hid hhigh
    have hil2 : i < l.length := by omega
    clear hil hlow hhigh
    by_cases hlt : j < l.length
    · have he1 := HHigh.out j _ (Nat.le_refl _) (List.getElem?_eq_getElem hlt)
      have HX := Lib.hid (List.getElem?_eq_getElem hlt)
      generalize l[j] = e1 at *
      obtain ⟨⟨c0, c1, c2, c3, c4⟩, c5, c6, c7, c8, c9⟩ := he1.cells
      simp only at c0 c1 c2 c3 c4 c5 c6 c7 c8 c9
      have hkE := Blk.new wr 40 (evCells e1).toArray
      have hal := (Below.refl wr.heap.size wr).alloc (Nat.le_refl _) (.cells (evCells e1).toArray 40)
      have hsk := hch.blk hk1 (fun h => hsb (by rw [h]; rfl))
      have hsI : Is wr av vs s := HS1.out.keep fun k hk hl => hch.block k hl (fun h => hsv k hk (by rw [h]; rfl))
      go_wp2_with fail
      refine (gone_any av sb vs s e1 _ (hsk.below' hal) (hsI.below hal)).mono ?_
      rintro r w2 ⟨rfl, hb2⟩
      have hB2 := below_then hal hal.size hb2
      have hkE2 := hkE.below' hb2
      have hkG2 := hkG.below' hB2
      have hold := hB2.block g hkG.lt
      have hC2 : Chg (· = g) w1 w2 := hch.trans (.of_below hB2)
      clear c0 c1 c2 c3 c4 c5 c6 c7 c8 c9 hkE hal hsk hsI hb2 he1
      rcases hq : hasI s e1.seq
      · obtain ⟨⟨d0, d1, d2, d3, d4⟩, d5, d6, d7, d8, d9⟩ := EvBlk.cells hkE2
        obtain ⟨u0, u1, u2, u3, u4, u5, u6, u7, u8, u9, ⟨t0, t1, t2, t3, t4⟩, t5, t6, t7, t8, t9⟩ := there10 (o := off + i * 10) hkG2 (by omega)
        obtain ⟨⟨f0, f1, f2, f3, f4⟩, f5, f6, f7, f8, f9⟩ := frozen10 hkG2 (off + i * 10)
        go_wp2_with fail
        have hW : ((((((((((w2).setCell ⟨g, off + i * 10, none⟩ (.string ⟨e1.client.toArray⟩)).setCell ⟨g, off + i * 10 + 1, none⟩ (.int .i64 e1.seq)).setCell ⟨g, off + i * 10 + 2, none⟩ (.int .i64 e1.kind)).setCell ⟨g, off + i * 10 + 3, none⟩ (.int .i64 e1.time)).setCell ⟨g, off + i * 10 + 4, none⟩ (.string ⟨e1.id.toArray⟩)).setCell ⟨g, off + i * 10 + 5, none⟩ (.string ⟨e1.name.toArray⟩)).setCell ⟨g, off + i * 10 + 6, none⟩ (.string ⟨e1.other.toArray⟩)).setCell ⟨g, off + i * 10 + 7, none⟩ (.int .i64 e1.version)).setCell ⟨g, off + i * 10 + 8, none⟩ (.int .i64 e1.arm)).setCell ⟨g, off + i * 10 + 9, none⟩ (.int .i64 e1.value) = w2.setCells g (off + i * 10) (evCells e1) := rfl
        rw [hW]
        clear hW
        obtain ⟨cur', hkG3, hcs⟩ := setCells_blk (evCells e1) (off + i * 10) w2 g 40 cur hkG2
        have hlen1 : (keepL s (l.take (j + 1))).length = i + 1 := by rw [keepL_take HX.out, hq, if_neg (by simp), List.length_append, ← HI.out]; rfl
        go_roundw
        case rel =>
          refine ⟨i + 1, j + 1, cur', by simp, by simp, by omega, by omega, hlen1.symm, hkG3, by omega, fun a e ha => ?_, fun a e haj ha => ?_, hC2.trans (setCells_chg _ _ _ _)⟩
          · rw [keepL_take HX.out, hq, if_neg (by simp)] at ha
            by_cases hai : a < i
            · rw [List.getElem?_append_left (by rw [← HI.out]; exact hai)] at ha
              exact ((HLow.out a e ha).keep hold).far (.inl (by omega))
            · rw [List.getElem?_append_right (by rw [← HI.out]; omega), ← HI.out] at ha
              have hai2 : a = i := by
                have := (List.getElem?_eq_some_iff.1 ha).1
                simp at this
                omega
              subst hai2
              simp at ha
              subst ha
              exact EvAt.set_ e1 hkG2 (by omega)
          · exact ((HHigh.out a e (by omega) ha).keep hold).far (.inr (by rw [evCells_len]; omega))
        case measure => simp [intOf]; omega
      · go_wp2_with fail
        have hlen1 : keepL s (l.take (j + 1)) = keepL s (l.take j) := by rw [keepL_take HX.out, hq, if_pos rfl, List.append_nil]
        go_roundw
        case rel =>
          exact ⟨i, j + 1, cur, by simp, by simp, by omega, by omega, by rw [hlen1]; exact HI.out, hkG2, by omega, fun a e ha => (HLow.out a e (by rw [← hlen1]; exact ha)).keep hold, fun a e haj ha => (HHigh.out a e (by omega) ha).keep hold, hC2⟩
        case measure => simp [intOf]; omega
    · have hjn : j = l.length := by omega
      have hci : ¬ cap = i := by omega
      obtain ⟨zs, hzl, hcl⟩ := run_clear_ev wr 0 g (off + i * 10) (l.length - i) (cap - i) cur hkG (by omega) (by omega)
      have hall : keepL s (l.take j) = keepL s l := by rw [hjn, List.take_length]
      have HAll := Lib.hid hall
      clear hall hjn
      go_wp2_with fail
      have hi : i = (keepL s l).length := by rw [← HAll.out]; exact HI.out
      obtain ⟨cur', hkG3, hcs⟩ := setCells_blk zs (off + i * 10) wr g 40 cur hkG
      have hch3 := (hC1.trans hch).trans (setCells_chg zs (off + i * 10) wr g)
      go_ret
      refine ⟨_, rfl, .inr ⟨g, off, cap, cur', by rw [← hi]; rfl, hBg, hkG3, by omega, hn2, by omega, cells_os _ fun a e ha => ?_⟩, hch3.mono fun k _ e => by rw [e]; rfl, fun k h => h⟩
      have ha2 : a < i := by have := (List.getElem?_eq_some_iff.1 ha).1; omega
      exact (HLow.out a e (by rw [HAll.out]; exact ha)).far (.inl (by omega))
end Go.Proofs.YtfdobpmmgmnfnaaDoor
