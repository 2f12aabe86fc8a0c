import Derived.Test.YtamoenjempnlhaaGreatDoorS18
namespace Go.Proofs.YtamoenjempnlhaaGreatDoor
open Go.RowKit
set_option maxRecDepth 100000
theorem zero_write (w : World) : (zeroValue 188).run Tryz.prog w = .ok (.agg #[.int .i64 0, .string ⟨#[]⟩]) w := by kernel_rfl
theorem run_clear1 (w : World) (g cap : Nat) (ty : TypeId) (u0 u1 : Value) (h0 : w.cell? ⟨g, 0, none⟩ = some u0) (h1 : w.cell? ⟨g, 1, none⟩ = some u1) (hf : ∀ j, w.frozen? ⟨g, j, none⟩ = false) :
    (Builtin.clear_ #[59] ty #[.slice (some ⟨g, 0, none⟩) 1 cap]).run Tryz.prog w = .ok (.tuple #[]) (w.setCells g 0 [.int .i64 0, .string ⟨#[]⟩]) := by
  have hzc : (Builtin.zeroCells (Value.agg #[.int .i64 0, .string ⟨#[]⟩]).cells 1).toList = [.int .i64 0, .string ⟨#[]⟩] := by
    simp [Builtin.zeroCells, Value.cells, Array.range_succ, List.range_succ]
  have hst := run_storeCells_cells (P := Tryz.prog) g 0 [.int .i64 0, .string ⟨#[]⟩] 0 w (fun j hj => by
    match j, hj with
    | 0, _ => exact Option.isSome_iff_exists.2 ⟨u0, h0⟩
    | 1, _ => exact Option.isSome_iff_exists.2 ⟨u1, h1⟩) (fun j _ => hf _) (by intro v hv; simp at hv; rcases hv with rfl | rfl <;> rfl)
  simp only [Nat.add_zero] at hst
  simp [Builtin.clear_, run_underlying Tryz.underlying59, zero_write, hzc, hst]
theorem info_byte1 : (Tryz.prog.info? 5).map (·.size) = some 1 := by kernel_rfl
set_option maxHeartbeats 3200000 in
theorem drop_any (N d s t n : Nat) (wt : Value) (xs : List Value) (w0 w : World) (h : DiskAt N d s t n wt 1 xs w0 w) (hn0 : 0 < n) (hn : n ≤ 131072) :
    Calls Tryz.prog 115 #[.pointer (some ⟨d, 0, none⟩), .int .i64 n] w fun e w' => e = .returned (.tuple #[]) ∧ (∃ wt', DiskAt N d s t n wt' 0 [] w0 w') ∧ KeptD w w' := by
  obtain ⟨g, cap, cur, rfl, hNg, hg, hc1, hc2, hc3, hc4⟩ : ∃ g cap cur, wt = .slice (some ⟨g, 0, none⟩) 1 cap ∧ N ≤ g ∧ w.heap[g]? = some (.cells cur 188 (0, 0)) ∧ 1 ≤ cap ∧ cap ≤ maxLen ∧ cur.size = cap * 2 ∧ cur.toList.take (1 * 2) = xs := by
    rcases h.own.2 with ⟨_, h1⟩ | ⟨g, cap, cur, h1, h2, h3, h4⟩
    · cases h1
    · exact ⟨g, cap, cur, h1, h2, h3, h4⟩
  obtain ⟨cs, hs1, hs2⟩ := h.srow
  obtain ⟨ct, ht1, ht2⟩ := h.trow
  have hsd := h.sd
  have hgd : g ≠ d := by rintro rfl; have := hg.symm.trans h.blk; cases this
  have hgs : g ≠ s := by rintro rfl; have := hg.symm.trans hs1; cases this
  have hgt : g ≠ t := by rintro rfl; have := hg.symm.trans ht1; cases this
  have k0 : w.cell? ⟨d, 0, none⟩ = some (.slice (some ⟨s, 0, none⟩) n n) := (cell_of_block h.blk 0).trans rfl
  have k1 : w.cell? ⟨d, 1, none⟩ = some (.slice (some ⟨t, 0, none⟩) n n) := (cell_of_block h.blk 1).trans rfl
  have hlen : ct.toList.length = n := by rw [Array.length_toList]; exact ht2.1
  have hcp := run_copy_cells (P := Tryz.prog) w.drew 58 58 3 5 s 0 n n ⟨t, 0, none⟩ n n ct.toList Tryz.underlying58 info_byte1 (by rw [hlen]; exact (Nat.min_self n).symm) (fun j v hj => by
      rw [show (⟨t, 0, none⟩ : Addr).add j = ⟨t, j, none⟩ by unfold Addr.add; split <;> simp_all]
      exact (cell_of_block ht1 j).trans (by simpa using hj))
    (fun j hj => by
      rw [Nat.zero_add]
      obtain ⟨x, hx⟩ := hs2.2 j (by rw [hlen] at hj; exact hj)
      exact Option.isSome_iff_exists.2 ⟨_, (cell_of_block hs1 j).trans hx⟩)
    (fun j _ => free_of_block hs1 _)
    (fun v hv => by
      obtain ⟨j, hj, rfl⟩ := List.getElem_of_mem hv
      obtain ⟨x, hx⟩ := ht2.2 j (by rw [hlen] at hj; exact hj)
      have : ct.toList[j] = .int .u8 x := by
        have := Array.getElem?_eq_some_iff.1 hx
        obtain ⟨_, h2⟩ := this
        rw [← h2]; simp
      rw [this]; rfl)
  rw [hlen] at hcp
  obtain ⟨W1, hW1⟩ : ∃ W1, W1 = w.drew.setCells s 0 ct.toList := ⟨_, rfl⟩
  rw [← hW1] at hcp
  obtain ⟨cs1, s1, hs3⟩ : ∃ cs', W1.heap[s]? = some (.cells cs' 5 (0, 0)) ∧ bytesOk n cs' := by
    rw [hW1]
    refine row_sets _ 0 w.drew cs hs1 hs2 (fun v hv => ?_)
    obtain ⟨j, hj, rfl⟩ := List.getElem_of_mem hv
    obtain ⟨x, hx⟩ := ht2.2 j (by rw [hlen] at hj; exact hj)
    obtain ⟨_, h2⟩ := Array.getElem?_eq_some_iff.1 hx
    exact ⟨x, by rw [← h2]; simp⟩
  have blk1 : W1.heap[d]? = some (.cells (diskC s t n (.slice (some ⟨g, 0, none⟩) 1 cap)) 61 (0, 0)) := by rw [hW1]; exact (far_sets (Ne.symm hsd.1) _ _ _).trans h.blk
  have t1 : W1.heap[t]? = some (.cells ct 5 (0, 0)) := by rw [hW1]; exact (far_sets (Ne.symm h.ne) _ _ _).trans ht1
  have g1 : W1.heap[g]? = some (.cells cur 188 (0, 0)) := by rw [hW1]; exact (far_sets hgs _ _ _).trans hg
  have b1 : Below N w0 W1 := by rw [hW1]; exact below_sets s h.hs _ _ h.below.drew
  have p2 : W1.cell? ⟨d, 2, none⟩ = some (.slice (some ⟨g, 0, none⟩) 1 cap) := (cell_of_block blk1 2).trans rfl
  have hcl := run_clear1 W1 g cap 0 cur[0] cur[1] ((cell_of_block g1 0).trans (Array.getElem?_eq_getElem (by omega))) ((cell_of_block g1 1).trans (Array.getElem?_eq_getElem (by omega))) (free_of_block g1)
  obtain ⟨W2, hW2⟩ : ∃ W2, W2 = (W1.setCell ⟨g, 0, none⟩ (.int .i64 0)).setCell ⟨g, 1, none⟩ (.string ⟨#[]⟩) := ⟨_, rfl⟩
  rw [show W1.setCells g 0 [.int .i64 0, .string ⟨#[]⟩] = W2 from hW2.symm] at hcl
  have blk2 : W2.heap[d]? = some (.cells (diskC s t n (.slice (some ⟨g, 0, none⟩) 1 cap)) 61 (0, 0)) := by rw [hW2]; exact setCell_far (setCell_far blk1 (Ne.symm hgd) _ _) (Ne.symm hgd) _ _
  have s2 : W2.heap[s]? = some (.cells cs1 5 (0, 0)) := by rw [hW2]; exact setCell_far (setCell_far s1 (Ne.symm hgs) _ _) (Ne.symm hgs) _ _
  have t2 : W2.heap[t]? = some (.cells ct 5 (0, 0)) := by rw [hW2]; exact setCell_far (setCell_far t1 (Ne.symm hgt) _ _) (Ne.symm hgt) _ _
  have g2 : ∃ cur2, W2.heap[g]? = some (.cells cur2 188 (0, 0)) ∧ cur2.size = cap * 2 := ⟨_, by rw [hW2]; exact setCell_block (setCell_block g1 0 _) 1 _, by simp [hc3]⟩
  have b2 : Below N w0 W2 := by rw [hW2]; exact (b1.setCell (p := ⟨g, 0, none⟩) hNg _).setCell (p := ⟨g, 1, none⟩) hNg _
  have r2 : W2.cell? ⟨d, 2, none⟩ = some (.slice (some ⟨g, 0, none⟩) 1 cap) := (cell_of_block blk2 2).trans rfl
  have rf := free_of_block blk2
  have hk2 : ∀ j, j ≠ s → j ≠ g → W2.heap[j]? = w.heap[j]? := by
    intro j j1 j2
    rw [hW2]
    refine (setCell_far rfl j2 _ _).trans ((setCell_far rfl j2 _ _).trans ?_)
    rw [hW1]
    exact far_sets j1 _ _ _
  have HK2 := Lib.hid hk2
  have HH := Lib.hid h
  clear hk2
  have hNd := h.hd
  have hNs := h.hs
  have hNt := h.ht
  have hne := h.ne
  have HBK := Lib.hid blk2
  have HS := Lib.hid s2
  have HT := Lib.hid t2
  have HG := Lib.hid g2
  have HB := Lib.hid b2
  have HS3 := Lib.hid hs3
  have HT2 := Lib.hid ht2
  clear h hs1 hs2 ht1 ht2 hg hW1 hW2 blk1 s1 t1 g1 b1 blk2 s2 t2 g2 b2 hs3 hlen hc4
  go_enter Tryz.func115, Tryz.ntmps115
  go_wp2_with fail
  go_region
  all_goals go_wp2_with fail
  go_end0
  obtain ⟨cur2, g2, hc5⟩ := HG.out
  refine ⟨rfl, ⟨.slice (some ⟨g, 0, none⟩) 0 cap, ?_⟩, HH.out.keptD (fun j hj j1 j2 j3 j4 => (setCell_far rfl j1 _ _).trans (HK2.out j j2 (fun e => j4 (by rw [e]; rfl))))⟩
  refine ⟨?_, ⟨cs1, setCell_far HS.out hsd.1 _ _, HS3.out⟩, ⟨ct, setCell_far HT.out hsd.2 _ _, HT2.out⟩, ⟨rfl, Or.inr ⟨g, cap, cur2, rfl, hNg, setCell_far g2 hgd _ _, Nat.zero_le _, hc2, hc5, by simp⟩⟩, hne, hNd, hNs, hNt, HB.out.setCell (p := ⟨d, 2, none⟩) hNd _⟩
  rw [setCell_block HBK.out 2 _]
  rfl
set_option maxHeartbeats 1600000 in
theorem sync_any (N d s t n : Nat) (wt : Value) (xs : List Value) (w0 w : World) (h : DiskAt N d s t n wt 1 xs w0 w) (hn0 : 0 < n) (hn : n ≤ 131072) :
    Calls Tryz.prog 48 #[.pointer (some ⟨d, 0, none⟩)] w fun e w' => e = .returned (.int .i64 0) ∧ (∃ wt', DiskAt N d s t n wt' 0 [] w0 w') ∧ KeptD w w' := by
  have k4 : w.cell? ⟨d, 4, none⟩ = some (.bool false) := (cell_of_block h.blk 4).trans rfl
  have hst := step_any d _ _ _ w h.blk
  have hD1 : DiskAt N d s t n wt 1 xs w0 ((w.setCell ⟨d, 3, none⟩ (.int .i64 (-1))).setCell ⟨d, 3, none⟩ (.int .i64 0)) := by
    obtain ⟨cs, hs1, hs2⟩ := h.srow
    obtain ⟨ct, ht1, ht2⟩ := h.trow
    have hsd := h.sd
    have hfar := h.wfar
    refine ⟨?_, ⟨cs, setCell_far (setCell_far hs1 hsd.1 _ _) hsd.1 _ _, hs2⟩, ⟨ct, setCell_far (setCell_far ht1 hsd.2 _ _) hsd.2 _ _, ht2⟩, ?_, h.ne, h.hd, h.hs, h.ht, (h.below.setCell (p := ⟨d, 3, none⟩) h.hd _).setCell (p := ⟨d, 3, none⟩) h.hd _⟩
    · rw [setCell_block (setCell_block h.blk 3 _) 3 _]; rfl
    · rcases h.own with ⟨hl, h5 | ⟨g, cap, cur, rfl, e2, e3, e4⟩⟩
      · exact ⟨hl, Or.inl h5⟩
      · have hgd : g ≠ d := fun e => hfar.1 (by rw [← e]; rfl)
        exact ⟨hl, Or.inr ⟨g, cap, cur, rfl, e2, setCell_far (setCell_far e3 hgd _ _) hgd _ _, e4⟩⟩
  have hk1 : KeptD w ((w.setCell ⟨d, 3, none⟩ (.int .i64 (-1))).setCell ⟨d, 3, none⟩ (.int .i64 0)) := h.keptD (fun j hj j1 j2 j3 j4 => (setCell_far rfl j1 _ _).trans (setCell_far rfl j1 _ _))
  have HK1 := Lib.hid hk1
  clear hk1
  generalize (w.setCell ⟨d, 3, none⟩ (.int .i64 (-1))).setCell ⟨d, 3, none⟩ (.int .i64 0) = W1 at hst hD1 HK1
  have hdr := drop_any N d s t n wt xs w0 W1 hD1 hn0 hn
  have p0 : W1.cell? ⟨d, 0, none⟩ = some (.slice (some ⟨s, 0, none⟩) n n) := (cell_of_block hD1.blk 0).trans rfl
  have HST := Lib.hid hst
  have HDR := Lib.hid hdr
  clear hst hdr hD1 h
  go_enter Tryz.func48, Tryz.ntmps48
  go_wp2_with (first
    | (go_at_call 109; refine HST.out.mono ?_; rintro e w1 ⟨rfl, hw1⟩; obtain rfl := hw1)
    | (go_at_call 115; refine HDR.out.mono ?_; rintro e w2 ⟨rfl, hw2, hk2⟩)
    | fail)
  go_ret
  exact ⟨rfl, hw2, HK1.out.trans hk2⟩
end Go.Proofs.YtamoenjempnlhaaGreatDoor
