import Derived.Test.YtamoenjempnlhaaGreatDoorS17
namespace Go.Proofs.YtamoenjempnlhaaGreatDoor
open Go.RowKit
set_option maxRecDepth 100000
set_option maxHeartbeats 3200000 in
theorem dWrite_any (N d s t n a : Nat) (wt : Value) (str : ByteArray) (w0 w : World) (h : DiskAt N d s t n wt 0 [] w0 w) (hs0 : 0 < str.size) (hk : a + str.size ≤ n) (hn : n ≤ 131072) :
    Calls Tryz.prog 46 #[.pointer (some ⟨d, 0, none⟩), .int .i64 a, .string str] w fun e w' => e = .returned (.int .i64 0) ∧ (∃ wt' xs', DiskAt N d s t n wt' 1 xs' w0 w') ∧ KeptD w w' := by
  obtain ⟨i0, hi, hz0, hz1, hz2⟩ := info_parts info_write
  have k0 : w.cell? ⟨d, 0, none⟩ = some (.slice (some ⟨s, 0, none⟩) n n) := (cell_of_block h.blk 0).trans rfl
  have k1 : w.cell? ⟨d, 1, none⟩ = some (.slice (some ⟨t, 0, none⟩) n n) := (cell_of_block h.blk 1).trans rfl
  have k2 : w.cell? ⟨d, 2, none⟩ = some wt := (cell_of_block h.blk 2).trans rfl
  have k4 : w.cell? ⟨d, 4, none⟩ = some (.bool false) := (cell_of_block h.blk 4).trans rfl
  have hld := lt_of_block' h.blk
  have hm := may_any d s n a str.size w k0 hk hn
  have HM := Lib.hid hm
  have HD := Lib.hid h
  clear hm h
  go_enter Tryz.func46, Tryz.ntmps46
  go_wp2_with (first
    | (go_at_call 108; refine HM.out.mono ?_; rintro e w1 ⟨rfl, hw1⟩; obtain rfl := hw1.symm)
    | (at_builtin; refine wpList_append_own _ rfl _ _ 59 rfl N 188 i0 (.agg #[.int .i64 0, .string ⟨#[]⟩]) 2 24 Tryz.underlying59 hi hz0 hz1 hz2 rfl (by decide) wt 0 [] rfl (HD.out.own.alloc _) ⟨_, 0, none⟩ 1 1 [.int .i64 a, .string str] rfl rfl ?c1 ?c2 ?c3 ?c4 ?c5 ?_)
    | fail)
  case c1 =>
    intro j u hj
    match j, hj with
    | 0, hj => cases hj; exact (cell_of_block (block_new _ _ _ _ rfl) 0).trans rfl
    | 1, hj => cases hj; exact (cell_of_block (block_new _ _ _ _ rfl) 1).trans rfl
  case c2 =>
    intro u hu
    simp at hu
    rcases hu with rfl | rfl <;> rfl
  case c3 => decide
  case c4 => decide
  case c5 => have := HD.out.hd; simp; omega
  intro v' w2 hown' hgrow hnn
  obtain ⟨g, cap, cur, rfl, hNg, hg, hcap⟩ : ∃ g cap cur, v' = .slice (some ⟨g, 0, none⟩) 1 cap ∧ N ≤ g ∧ w2.heap[g]? = some (.cells cur 188 (0, 0)) ∧ 1 ≤ cap ∧ cap ≤ maxLen ∧ cur.size = cap * 2 ∧ cur.toList.take (1 * 2) = [.int .i64 a, .string str] := by
    rcases hown'.2 with ⟨_, h1⟩ | ⟨g, cap, cur, h1, h2, h3, h4⟩
    · cases h1
    · exact ⟨g, cap, cur, h1, h2, h3, h4⟩
  have hfar := HD.out.wfar
  have hsd := HD.out.sd
  obtain ⟨cs, hs1, hs2⟩ := HD.out.srow
  obtain ⟨ct, ht1, ht2⟩ := HD.out.trow
  have blk2 : w2.heap[d]? = some (.cells (diskC s t n wt) 61 (0, 0)) := (hgrow.block d (by simp; omega) hfar.1).trans (block_old _ HD.out.blk hld)
  have s2 : w2.heap[s]? = some (.cells cs 5 (0, 0)) := (hgrow.block s (by have := lt_of_block' hs1; simp; omega) hfar.2.1).trans (block_old _ hs1 (lt_of_block' hs1))
  have t2 : w2.heap[t]? = some (.cells ct 5 (0, 0)) := (hgrow.block t (by have := lt_of_block' ht1; simp; omega) hfar.2.2).trans (block_old _ ht1 (lt_of_block' ht1))
  have hNw : N ≤ w.heap.size := by have := HD.out.hd; omega
  have hbel : Below N w w2 := ((Below.refl N w).alloc hNw _).grown hgrow (by simp; omega) (fun k hk => (HD.out.own.lt k hk).1)
  have q1 : w2.cell? ⟨d, 1, none⟩ = some (.slice (some ⟨t, 0, none⟩) n n) := (cell_of_block blk2 1).trans rfl
  have q2 : w2.cell? ⟨d, 2, none⟩ = some wt := (cell_of_block blk2 2).trans rfl
  have qf := free_of_block blk2
  have hgd : g ≠ d := by rintro rfl; have := hg.symm.trans blk2; cases this
  have hgs : g ≠ s := by rintro rfl; have := hg.symm.trans s2; cases this
  have hgt : g ≠ t := by rintro rfl; have := hg.symm.trans t2; cases this
  obtain ⟨W3, hW3⟩ : ∃ W3, W3 = w2.setCell ⟨d, 2, none⟩ (.slice (some ⟨g, 0, none⟩) 1 cap) := ⟨_, rfl⟩
  have blk3 : W3.heap[d]? = some (.cells (diskC s t n (.slice (some ⟨g, 0, none⟩) 1 cap)) 61 (0, 0)) := by rw [hW3, setCell_block blk2 2]; rfl
  have s3 : W3.heap[s]? = some (.cells cs 5 (0, 0)) := by rw [hW3]; exact setCell_far s2 hsd.1 _ _
  have t3 : W3.heap[t]? = some (.cells ct 5 (0, 0)) := by rw [hW3]; exact setCell_far t2 hsd.2 _ _
  have g3 : W3.heap[g]? = some (.cells cur 188 (0, 0)) := by rw [hW3]; exact setCell_far hg hgd _ _
  have b3 : Below N w W3 := by rw [hW3]; exact hbel.setCell (p := ⟨d, 2, none⟩) HD.out.hd _
  have hcp := run_copy_string (P := Tryz.prog) W3 58 9 3 5 t a (n - a) (n - a) str Tryz.underlying58 size_byte (by omega) (fun j hj => by
    rw [cell_of_block t3]; obtain ⟨x, hx⟩ := ht2.2 (a + j) (by omega); rw [hx]; rfl) (fun j _ => free_of_block t3 _)
  obtain ⟨W4, hW4⟩ : ∃ W4, W4 = W3.setCells t a (str.data.toList.map fun x => Value.int .u8 (x.toNat : Int)) := ⟨_, rfl⟩
  rw [← hW4] at hcp
  obtain ⟨ct4, t4, ht4⟩ : ∃ ct', W4.heap[t]? = some (.cells ct' 5 (0, 0)) ∧ bytesOk n ct' := by
    rw [hW4]
    exact row_sets _ a W3 ct t3 ht2 (fun v hv => by obtain ⟨x, _, rfl⟩ := List.mem_map.1 hv; exact ⟨_, rfl⟩)
  have blk4 : W4.heap[d]? = some (.cells (diskC s t n (.slice (some ⟨g, 0, none⟩) 1 cap)) 61 (0, 0)) := by rw [hW4]; exact (far_sets (Ne.symm hsd.2) _ _ _).trans blk3
  have s4 : W4.heap[s]? = some (.cells cs 5 (0, 0)) := by rw [hW4]; exact (far_sets HD.out.ne _ _ _).trans s3
  have g4 : W4.heap[g]? = some (.cells cur 188 (0, 0)) := by rw [hW4]; exact (far_sets hgt _ _ _).trans g3
  have b4 : Below N w W4 := by rw [hW4]; exact below_sets t HD.out.ht _ _ b3
  have r1 : W3.cell? ⟨d, 1, none⟩ = some (.slice (some ⟨t, 0, none⟩) n n) := (cell_of_block blk3 1).trans rfl
  have hk4 : ∀ j, j < w.heap.size → j ≠ d → j ≠ s → j ≠ t → some j ≠ wt.ownBlock → W4.heap[j]? = w.heap[j]? := by
    intro j hj j1 j2 j3 j4
    rw [hW4, far_sets j3, hW3]
    exact (setCell_far rfl j1 _ _).trans ((hgrow.block j (by simp; omega) j4).trans (Below.heap_alloc _ _ _ hj))
  have HK4 := Lib.hid hk4
  clear hk4
  have hst := step_any d _ _ _ W4 blk4
  have HST := Lib.hid hst
  have HCP := Lib.hid hcp
  have HB4 := Lib.hid b4
  have HBK := Lib.hid blk4
  have HS4 := Lib.hid s4
  have HT4 := Lib.hid t4
  have HG4 := Lib.hid g4
  have HS2 := Lib.hid hs2
  have HT2 := Lib.hid ht4
  have HC := Lib.hid hcap
  have HW3 := Lib.hid hW3
  have hne := HD.out.ne
  clear hst hcp b4 blk4 s4 t4 g4 hs2 ht2 ht4 hcap blk3 s3 t3 g3 b3 blk2 s2 t2 hbel hs1 ht1 hown' hgrow hW4 hfar hg hnn hW3
  go_wp2_with fail
  rw [← HW3.out, HCP.out]
  simp only [Result.andThen]
  rw [Oper.upon_value]
  go_wp2_with (first
    | (go_at_call 109; refine HST.out.mono ?_; rintro e w5 ⟨rfl, rfl⟩)
    | fail)
  go_ret
  refine ⟨rfl, ⟨.slice (some ⟨g, 0, none⟩) 1 cap, [.int .i64 a, .string str], ?_⟩, HD.out.keptD (fun j hj j1 j2 j3 j4 => (setCell_far rfl j1 _ _).trans ((setCell_far rfl j1 _ _).trans (HK4.out j hj j1 j2 j3 j4)))⟩
  refine ⟨?_, ⟨cs, setCell_far (setCell_far HS4.out hsd.1 _ _) hsd.1 _ _, HS2.out⟩, ⟨ct4, setCell_far (setCell_far HT4.out hsd.2 _ _) hsd.2 _ _, HT2.out⟩, ⟨rfl, Or.inr ⟨g, cap, cur, rfl, hNg, setCell_far (setCell_far HG4.out hgd _ _) hgd _ _, HC.out⟩⟩, hne, HD.out.hd, HD.out.hs, HD.out.ht, HD.out.below.trans ((HB4.out.setCell (p := ⟨d, 3, none⟩) HD.out.hd _).setCell (p := ⟨d, 3, none⟩) HD.out.hd _)⟩
  rw [setCell_block (setCell_block HBK.out 3 _) 3 _]
  rfl
end Go.Proofs.YtamoenjempnlhaaGreatDoor
