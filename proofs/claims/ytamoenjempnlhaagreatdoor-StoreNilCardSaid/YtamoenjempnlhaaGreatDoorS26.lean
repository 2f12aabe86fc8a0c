import Derived.Test.YtamoenjempnlhaaGreatDoorS25
namespace Go.Proofs.YtamoenjempnlhaaGreatDoor
open Go.RowKit
set_option maxRecDepth 100000
theorem clone_Person (w : World) : Calls Tryz.prog 17 #[.slice none 0 0] w fun e w' => e = .returned (.slice none 0 0) ∧ w' = w := by
  have he := fun w => Lib.run_eql_slice_nil (P := Tryz.prog) w 32 70 none 0 0 0 0 Tryz.underlying32
  go_enter Tryz.func17, Tryz.ntmps17
  go_wp2
  go_ret
  exact ⟨rfl, rfl⟩
theorem clone_Session (w : World) : Calls Tryz.prog 18 #[.slice none 0 0] w fun e w' => e = .returned (.slice none 0 0) ∧ w' = w := by
  have he := fun w => Lib.run_eql_slice_nil (P := Tryz.prog) w 33 73 none 0 0 0 0 Tryz.underlying33
  go_enter Tryz.func18, Tryz.ntmps18
  go_wp2
  go_ret
  exact ⟨rfl, rfl⟩
theorem clone_Secret (w : World) : Calls Tryz.prog 19 #[.slice none 0 0] w fun e w' => e = .returned (.slice none 0 0) ∧ w' = w := by
  have he := fun w => Lib.run_eql_slice_nil (P := Tryz.prog) w 36 76 none 0 0 0 0 Tryz.underlying36
  go_enter Tryz.func19, Tryz.ntmps19
  go_wp2
  go_ret
  exact ⟨rfl, rfl⟩
theorem clone_Message (w : World) : Calls Tryz.prog 20 #[.slice none 0 0] w fun e w' => e = .returned (.slice none 0 0) ∧ w' = w := by
  have he := fun w => Lib.run_eql_slice_nil (P := Tryz.prog) w 37 79 none 0 0 0 0 Tryz.underlying37
  go_enter Tryz.func20, Tryz.ntmps20
  go_wp2
  go_ret
  exact ⟨rfl, rfl⟩
theorem clone_Bucket (w : World) : Calls Tryz.prog 21 #[.slice none 0 0] w fun e w' => e = .returned (.slice none 0 0) ∧ w' = w := by
  have he := fun w => Lib.run_eql_slice_nil (P := Tryz.prog) w 38 82 none 0 0 0 0 Tryz.underlying38
  go_enter Tryz.func21, Tryz.ntmps21
  go_wp2
  go_ret
  exact ⟨rfl, rfl⟩
theorem clone_Case (w : World) : Calls Tryz.prog 22 #[.slice none 0 0] w fun e w' => e = .returned (.slice none 0 0) ∧ w' = w := by
  have he := fun w => Lib.run_eql_slice_nil (P := Tryz.prog) w 39 85 none 0 0 0 0 Tryz.underlying39
  go_enter Tryz.func22, Tryz.ntmps22
  go_wp2
  go_ret
  exact ⟨rfl, rfl⟩
theorem mkS {N b2 b3 : Nat} {w W : World} (h3 : W.heap[b3]? = some (.cells #[.slice none 0 0, .slice none 0 0, .slice none 0 0, .slice none 0 0, .slice none 0 0, .slice none 0 0, .int .u64 1, .int .i64 0] 42 (0, 0))) (h2 : W.heap[b2]? = some (.cells #[.slice none 0 0, .slice none 0 0, .slice none 0 0, .slice none 0 0, .slice none 0 0, .slice none 0 0, .int .u64 0, .int .i64 0] 42 (0, 0))) (hb : Below N w W) : (W.cell? ⟨b3, 0, none⟩ = some (.slice none 0 0) ∧ W.cell? ⟨b3, 1, none⟩ = some (.slice none 0 0) ∧ W.cell? ⟨b3, 2, none⟩ = some (.slice none 0 0) ∧ W.cell? ⟨b3, 3, none⟩ = some (.slice none 0 0) ∧ W.cell? ⟨b3, 4, none⟩ = some (.slice none 0 0) ∧ W.cell? ⟨b3, 5, none⟩ = some (.slice none 0 0)) ∧ (∀ i, W.frozen? ⟨b3, i, none⟩ = false) ∧ W.heap[b3]? = some (.cells #[.slice none 0 0, .slice none 0 0, .slice none 0 0, .slice none 0 0, .slice none 0 0, .slice none 0 0, .int .u64 1, .int .i64 0] 42 (0, 0)) ∧ W.heap[b2]? = some (.cells #[.slice none 0 0, .slice none 0 0, .slice none 0 0, .slice none 0 0, .slice none 0 0, .slice none 0 0, .int .u64 0, .int .i64 0] 42 (0, 0)) ∧ Below N w W :=
  ⟨⟨(cell_of_block h3 0).trans rfl, (cell_of_block h3 1).trans rfl, (cell_of_block h3 2).trans rfl, (cell_of_block h3 3).trans rfl, (cell_of_block h3 4).trans rfl, (cell_of_block h3 5).trans rfl⟩, free_of_block h3, h3, h2, hb⟩
theorem sKeep {N b2 b3 j : Nat} {w W : World} (hj : j < 6) (hN : N ≤ b3) (hne : b2 ≠ b3) (h : (W.cell? ⟨b3, 0, none⟩ = some (.slice none 0 0) ∧ W.cell? ⟨b3, 1, none⟩ = some (.slice none 0 0) ∧ W.cell? ⟨b3, 2, none⟩ = some (.slice none 0 0) ∧ W.cell? ⟨b3, 3, none⟩ = some (.slice none 0 0) ∧ W.cell? ⟨b3, 4, none⟩ = some (.slice none 0 0) ∧ W.cell? ⟨b3, 5, none⟩ = some (.slice none 0 0)) ∧ (∀ i, W.frozen? ⟨b3, i, none⟩ = false) ∧ W.heap[b3]? = some (.cells #[.slice none 0 0, .slice none 0 0, .slice none 0 0, .slice none 0 0, .slice none 0 0, .slice none 0 0, .int .u64 1, .int .i64 0] 42 (0, 0)) ∧ W.heap[b2]? = some (.cells #[.slice none 0 0, .slice none 0 0, .slice none 0 0, .slice none 0 0, .slice none 0 0, .slice none 0 0, .int .u64 0, .int .i64 0] 42 (0, 0)) ∧ Below N w W) : ((W.setCell ⟨b3, j, none⟩ (.slice none 0 0)).cell? ⟨b3, 0, none⟩ = some (.slice none 0 0) ∧ (W.setCell ⟨b3, j, none⟩ (.slice none 0 0)).cell? ⟨b3, 1, none⟩ = some (.slice none 0 0) ∧ (W.setCell ⟨b3, j, none⟩ (.slice none 0 0)).cell? ⟨b3, 2, none⟩ = some (.slice none 0 0) ∧ (W.setCell ⟨b3, j, none⟩ (.slice none 0 0)).cell? ⟨b3, 3, none⟩ = some (.slice none 0 0) ∧ (W.setCell ⟨b3, j, none⟩ (.slice none 0 0)).cell? ⟨b3, 4, none⟩ = some (.slice none 0 0) ∧ (W.setCell ⟨b3, j, none⟩ (.slice none 0 0)).cell? ⟨b3, 5, none⟩ = some (.slice none 0 0)) ∧ (∀ i, (W.setCell ⟨b3, j, none⟩ (.slice none 0 0)).frozen? ⟨b3, i, none⟩ = false) ∧ (W.setCell ⟨b3, j, none⟩ (.slice none 0 0)).heap[b3]? = some (.cells #[.slice none 0 0, .slice none 0 0, .slice none 0 0, .slice none 0 0, .slice none 0 0, .slice none 0 0, .int .u64 1, .int .i64 0] 42 (0, 0)) ∧ (W.setCell ⟨b3, j, none⟩ (.slice none 0 0)).heap[b2]? = some (.cells #[.slice none 0 0, .slice none 0 0, .slice none 0 0, .slice none 0 0, .slice none 0 0, .slice none 0 0, .int .u64 0, .int .i64 0] 42 (0, 0)) ∧ Below N w (W.setCell ⟨b3, j, none⟩ (.slice none 0 0)) := by
  obtain ⟨_, _, h3, h2, hb⟩ := h
  refine mkS ?_ (setCell_far h2 hne _ _) (hb.setCell (p := ⟨b3, j, none⟩) hN _)
  rw [setCell_block h3 j]
  match j, hj with
  | 0, _ => rfl
  | 1, _ => rfl
  | 2, _ => rfl
  | 3, _ => rfl
  | 4, _ => rfl
  | 5, _ => rfl
theorem sDrew {N b2 b3 : Nat} {w W : World} (h : (W.cell? ⟨b3, 0, none⟩ = some (.slice none 0 0) ∧ W.cell? ⟨b3, 1, none⟩ = some (.slice none 0 0) ∧ W.cell? ⟨b3, 2, none⟩ = some (.slice none 0 0) ∧ W.cell? ⟨b3, 3, none⟩ = some (.slice none 0 0) ∧ W.cell? ⟨b3, 4, none⟩ = some (.slice none 0 0) ∧ W.cell? ⟨b3, 5, none⟩ = some (.slice none 0 0)) ∧ (∀ i, W.frozen? ⟨b3, i, none⟩ = false) ∧ W.heap[b3]? = some (.cells #[.slice none 0 0, .slice none 0 0, .slice none 0 0, .slice none 0 0, .slice none 0 0, .slice none 0 0, .int .u64 1, .int .i64 0] 42 (0, 0)) ∧ W.heap[b2]? = some (.cells #[.slice none 0 0, .slice none 0 0, .slice none 0 0, .slice none 0 0, .slice none 0 0, .slice none 0 0, .int .u64 0, .int .i64 0] 42 (0, 0)) ∧ Below N w W) : (W.drew.cell? ⟨b3, 0, none⟩ = some (.slice none 0 0) ∧ W.drew.cell? ⟨b3, 1, none⟩ = some (.slice none 0 0) ∧ W.drew.cell? ⟨b3, 2, none⟩ = some (.slice none 0 0) ∧ W.drew.cell? ⟨b3, 3, none⟩ = some (.slice none 0 0) ∧ W.drew.cell? ⟨b3, 4, none⟩ = some (.slice none 0 0) ∧ W.drew.cell? ⟨b3, 5, none⟩ = some (.slice none 0 0)) ∧ (∀ i, W.drew.frozen? ⟨b3, i, none⟩ = false) ∧ W.drew.heap[b3]? = some (.cells #[.slice none 0 0, .slice none 0 0, .slice none 0 0, .slice none 0 0, .slice none 0 0, .slice none 0 0, .int .u64 1, .int .i64 0] 42 (0, 0)) ∧ W.drew.heap[b2]? = some (.cells #[.slice none 0 0, .slice none 0 0, .slice none 0 0, .slice none 0 0, .slice none 0 0, .slice none 0 0, .int .u64 0, .int .i64 0] 42 (0, 0)) ∧ Below N w W.drew := mkS (show W.drew.heap[b3]? = _ from h.2.2.1) (show W.drew.heap[b2]? = _ from h.2.2.2.1) h.2.2.2.2.drew
theorem set8 {w : World} {b : Nat} {T : TypeId} {a0 a1 a2 a3 a4 a5 a6 a7 : Value} (h : w.heap[b]? = some (.cells #[a0, a1, a2, a3, a4, a5, a6, a7] T (0, 0))) (v0 v1 v2 v3 v4 v5 v6 v7 : Value) :
    (((((((((w.setCell ⟨b, 0, none⟩ v0).setCell ⟨b, 1, none⟩ v1).setCell ⟨b, 2, none⟩ v2).setCell ⟨b, 3, none⟩ v3).setCell ⟨b, 4, none⟩ v4).setCell ⟨b, 5, none⟩ v5).setCell ⟨b, 6, none⟩ v6).setCell ⟨b, 7, none⟩ v7)).heap[b]? = some (.cells #[v0, v1, v2, v3, v4, v5, v6, v7] T (0, 0)) := by
  have e := setCell_block (setCell_block (setCell_block (setCell_block (setCell_block (setCell_block (setCell_block (setCell_block h 0 v0) 1 v1) 2 v2) 3 v3) 4 v4) 5 v5) 6 v6) 7 v7
  rw [e]
  simp
theorem state_nil (w : World) : Calls Tryz.prog 8 #[.pointer none] w fun e w' => e = .returned (.agg #[.slice none 0 0, .slice none 0 0, .slice none 0 0, .slice none 0 0, .slice none 0 0, .slice none 0 0, .int .u64 0, .int .i64 0]) ∧ Below w.heap.size w w' := by
  go_enter Tryz.func8, Tryz.ntmps8
  go_wp2
  exact bodyPost_ret (v := .agg #[.slice none 0 0, .slice none 0 0, .slice none 0 0, .slice none 0 0, .slice none 0 0, .slice none 0 0, .int .u64 0, .int .i64 0]) (by simp [results, Tryz.results8, go_sem]) rfl ⟨rfl, by (repeat (first | exact Below.refl _ _ | assumption | refine Below.drew ?_ | refine below_drewN ?_ _ | refine Below.alloc ?_ (by first | omega | (simp; done) | (simp; omega) | (simp at *; omega)) _ | refine Below.setCell ?_ (by first | omega | (simp; done) | (simp; omega)) _ | refine Below.trans ?_ (Below.mono (by assumption) (by first | omega | (simp; done) | (simp; omega) | (simp at *; omega)))))⟩
theorem broken_nil (w : World) : Calls Tryz.prog 9 #[.pointer none] w fun e w' => e = .returned (.bool false) ∧ w' = w := by
  go_enter Tryz.func9, Tryz.ntmps9
  go_wp2
  go_ret
  exact ⟨rfl, rfl⟩
theorem epoch_nil (w : World) : Calls Tryz.prog 10 #[.pointer none] w fun e w' => e = .returned (.int .u64 0) ∧ w' = w := by
  go_enter Tryz.func10, Tryz.ntmps10
  go_wp2
  go_ret
  exact ⟨rfl, rfl⟩
theorem commit_nil (v : Value) (w : World) : Calls Tryz.prog 7 #[.pointer none, v] w fun e w' => e = .returned (.int .i64 13) ∧ w' = w := by
  go_enter Tryz.func7, Tryz.ntmps7
  go_wp2
  go_ret
  exact ⟨rfl, rfl⟩
theorem logEpoch_any (L : Nat) (w : World) (h : w.cell? ⟨L, 2, none⟩ = some (.int .u64 1)) : Calls Tryz.prog 24 #[.pointer (some ⟨L, 0, none⟩)] w fun e w' => e = .returned (.int .u64 1) ∧ w' = w := by
  go_enter Tryz.func24, Tryz.ntmps24
  go_wp2
  go_ret
  exact ⟨rfl, rfl⟩
theorem epoch_ok (S L : Nat) (w : World) (hS : w.cell? ⟨S, 0, none⟩ = some (.pointer (some ⟨L, 0, none⟩))) (h : w.cell? ⟨L, 2, none⟩ = some (.int .u64 1)) : Calls Tryz.prog 10 #[.pointer (some ⟨S, 0, none⟩)] w fun e w' => e = .returned (.int .u64 1) ∧ w' = w := by
  go_enter Tryz.func10, Tryz.ntmps10
  go_wp2_with (first
    | (go_at_call 24; refine (logEpoch_any L _ h).mono ?_; rintro e w1 ⟨rfl, hw1⟩; obtain rfl := hw1)
    | fail)
  go_ret
  exact ⟨rfl, rfl⟩
set_option maxHeartbeats 6400000 in
theorem state_ok (S : Nat) (p : Value) (w : World) (hS : w.heap[S]? = some (.cells #[p, .slice none 0 0, .slice none 0 0, .slice none 0 0, .slice none 0 0, .slice none 0 0, .slice none 0 0, .int .u64 1, .int .i64 0] 57 (0, 0))) :
    Calls Tryz.prog 8 #[.pointer (some ⟨S, 0, none⟩)] w fun e w' => e = .returned (.agg #[.slice none 0 0, .slice none 0 0, .slice none 0 0, .slice none 0 0, .slice none 0 0, .slice none 0 0, .int .u64 1, .int .i64 0]) ∧ Below w.heap.size w w' := by
  have s1 : w.cell? ⟨S, 1, none⟩ = some (.slice none 0 0) := (cell_of_block hS 1).trans rfl
  have s2 : w.cell? ⟨S, 2, none⟩ = some (.slice none 0 0) := (cell_of_block hS 2).trans rfl
  have s3 : w.cell? ⟨S, 3, none⟩ = some (.slice none 0 0) := (cell_of_block hS 3).trans rfl
  have s4 : w.cell? ⟨S, 4, none⟩ = some (.slice none 0 0) := (cell_of_block hS 4).trans rfl
  have s5 : w.cell? ⟨S, 5, none⟩ = some (.slice none 0 0) := (cell_of_block hS 5).trans rfl
  have s6 : w.cell? ⟨S, 6, none⟩ = some (.slice none 0 0) := (cell_of_block hS 6).trans rfl
  have s7 : w.cell? ⟨S, 7, none⟩ = some (.int .u64 1) := (cell_of_block hS 7).trans rfl
  have s8 : w.cell? ⟨S, 8, none⟩ = some (.int .i64 0) := (cell_of_block hS 8).trans rfl
  have hSl := lt_of_block' hS
  clear hS
  go_enter Tryz.func8, Tryz.ntmps8
  go_wp2_with fail
  generalize hW : World.alloc _ _ = W
  have hs0 : (W.cell? ⟨w.heap.size + 1, 0, none⟩ = some (.slice none 0 0) ∧ W.cell? ⟨w.heap.size + 1, 1, none⟩ = some (.slice none 0 0) ∧ W.cell? ⟨w.heap.size + 1, 2, none⟩ = some (.slice none 0 0) ∧ W.cell? ⟨w.heap.size + 1, 3, none⟩ = some (.slice none 0 0) ∧ W.cell? ⟨w.heap.size + 1, 4, none⟩ = some (.slice none 0 0) ∧ W.cell? ⟨w.heap.size + 1, 5, none⟩ = some (.slice none 0 0)) ∧ (∀ i, W.frozen? ⟨w.heap.size + 1, i, none⟩ = false) ∧ W.heap[w.heap.size + 1]? = some (.cells #[.slice none 0 0, .slice none 0 0, .slice none 0 0, .slice none 0 0, .slice none 0 0, .slice none 0 0, .int .u64 1, .int .i64 0] 42 (0, 0)) ∧ W.heap[w.heap.size]? = some (.cells #[.slice none 0 0, .slice none 0 0, .slice none 0 0, .slice none 0 0, .slice none 0 0, .slice none 0 0, .int .u64 0, .int .i64 0] 42 (0, 0)) ∧ Below w.heap.size w W := by
    refine mkS ?_ ?_ ?_
    · rw [← hW]; exact block_new _ _ _ _ (by simp)
    · rw [← hW]; exact block_old _ (block_new _ _ _ _ rfl) (by simp)
    · rw [← hW]; (repeat (first | exact Below.refl _ _ | assumption | refine Below.drew ?_ | refine below_drewN ?_ _ | refine Below.alloc ?_ (by first | omega | (simp; done) | (simp; omega) | (simp at *; omega)) _ | refine Below.setCell ?_ (by first | omega | (simp; done) | (simp; omega)) _ | refine Below.trans ?_ (Below.mono (by assumption) (by first | omega | (simp; done) | (simp; omega) | (simp at *; omega)))))
  clear hW
  go_cut [] from 11 to 22 (fun W => (W.cell? ⟨w.heap.size + 1, 0, none⟩ = some (.slice none 0 0) ∧ W.cell? ⟨w.heap.size + 1, 1, none⟩ = some (.slice none 0 0) ∧ W.cell? ⟨w.heap.size + 1, 2, none⟩ = some (.slice none 0 0) ∧ W.cell? ⟨w.heap.size + 1, 3, none⟩ = some (.slice none 0 0) ∧ W.cell? ⟨w.heap.size + 1, 4, none⟩ = some (.slice none 0 0) ∧ W.cell? ⟨w.heap.size + 1, 5, none⟩ = some (.slice none 0 0)) ∧ (∀ i, W.frozen? ⟨w.heap.size + 1, i, none⟩ = false) ∧ W.heap[w.heap.size + 1]? = some (.cells #[.slice none 0 0, .slice none 0 0, .slice none 0 0, .slice none 0 0, .slice none 0 0, .slice none 0 0, .int .u64 1, .int .i64 0] 42 (0, 0)) ∧ W.heap[w.heap.size]? = some (.cells #[.slice none 0 0, .slice none 0 0, .slice none 0 0, .slice none 0 0, .slice none 0 0, .slice none 0 0, .int .u64 0, .int .i64 0] 42 (0, 0)) ∧ Below w.heap.size w W)
  case first =>
    have hs1 := sDrew hs0
    go_region_held3 (fun W => (W.cell? ⟨w.heap.size + 1, 0, none⟩ = some (.slice none 0 0) ∧ W.cell? ⟨w.heap.size + 1, 1, none⟩ = some (.slice none 0 0) ∧ W.cell? ⟨w.heap.size + 1, 2, none⟩ = some (.slice none 0 0) ∧ W.cell? ⟨w.heap.size + 1, 3, none⟩ = some (.slice none 0 0) ∧ W.cell? ⟨w.heap.size + 1, 4, none⟩ = some (.slice none 0 0) ∧ W.cell? ⟨w.heap.size + 1, 5, none⟩ = some (.slice none 0 0)) ∧ (∀ i, W.frozen? ⟨w.heap.size + 1, i, none⟩ = false) ∧ W.heap[w.heap.size + 1]? = some (.cells #[.slice none 0 0, .slice none 0 0, .slice none 0 0, .slice none 0 0, .slice none 0 0, .slice none 0 0, .int .u64 1, .int .i64 0] 42 (0, 0)) ∧ W.heap[w.heap.size]? = some (.cells #[.slice none 0 0, .slice none 0 0, .slice none 0 0, .slice none 0 0, .slice none 0 0, .slice none 0 0, .int .u64 0, .int .i64 0] 42 (0, 0)) ∧ Below w.heap.size w W)
      (first | exact hs1 | assumption | exact sDrew (sKeep (by decide) (by omega) (by omega) hs0) | exact sDrew (sKeep (by decide) (by omega) (by omega) (sKeep (by decide) (by omega) (by omega) hs0)))
      (first
        | (go_at_call 17; refine (clone_Person _).mono ?_; rintro e x1 ⟨rfl, rfl⟩)
        | (go_at_call 18; refine (clone_Session _).mono ?_; rintro e x1 ⟨rfl, rfl⟩))
    all_goals go_wp2_with fail
    all_goals go_meet
    all_goals assumption
  case rest =>
    have hs4 := hcut
    clear hcut hs0
    go_upto_region 5 with fail
    go_cut [] from 23 to 30 (fun W => (W.cell? ⟨w.heap.size + 1, 0, none⟩ = some (.slice none 0 0) ∧ W.cell? ⟨w.heap.size + 1, 1, none⟩ = some (.slice none 0 0) ∧ W.cell? ⟨w.heap.size + 1, 2, none⟩ = some (.slice none 0 0) ∧ W.cell? ⟨w.heap.size + 1, 3, none⟩ = some (.slice none 0 0) ∧ W.cell? ⟨w.heap.size + 1, 4, none⟩ = some (.slice none 0 0) ∧ W.cell? ⟨w.heap.size + 1, 5, none⟩ = some (.slice none 0 0)) ∧ (∀ i, W.frozen? ⟨w.heap.size + 1, i, none⟩ = false) ∧ W.heap[w.heap.size + 1]? = some (.cells #[.slice none 0 0, .slice none 0 0, .slice none 0 0, .slice none 0 0, .slice none 0 0, .slice none 0 0, .int .u64 1, .int .i64 0] 42 (0, 0)) ∧ W.heap[w.heap.size]? = some (.cells #[.slice none 0 0, .slice none 0 0, .slice none 0 0, .slice none 0 0, .slice none 0 0, .slice none 0 0, .int .u64 0, .int .i64 0] 42 (0, 0)) ∧ Below w.heap.size w W)
    case first =>
      have hs1 := sDrew hs4
      go_region_held3 (fun W => (W.cell? ⟨w.heap.size + 1, 0, none⟩ = some (.slice none 0 0) ∧ W.cell? ⟨w.heap.size + 1, 1, none⟩ = some (.slice none 0 0) ∧ W.cell? ⟨w.heap.size + 1, 2, none⟩ = some (.slice none 0 0) ∧ W.cell? ⟨w.heap.size + 1, 3, none⟩ = some (.slice none 0 0) ∧ W.cell? ⟨w.heap.size + 1, 4, none⟩ = some (.slice none 0 0) ∧ W.cell? ⟨w.heap.size + 1, 5, none⟩ = some (.slice none 0 0)) ∧ (∀ i, W.frozen? ⟨w.heap.size + 1, i, none⟩ = false) ∧ W.heap[w.heap.size + 1]? = some (.cells #[.slice none 0 0, .slice none 0 0, .slice none 0 0, .slice none 0 0, .slice none 0 0, .slice none 0 0, .int .u64 1, .int .i64 0] 42 (0, 0)) ∧ W.heap[w.heap.size]? = some (.cells #[.slice none 0 0, .slice none 0 0, .slice none 0 0, .slice none 0 0, .slice none 0 0, .slice none 0 0, .int .u64 0, .int .i64 0] 42 (0, 0)) ∧ Below w.heap.size w W)
        (first | exact hs1 | assumption | exact sDrew (sKeep (by decide) (by omega) (by omega) hs4) | exact sDrew (sKeep (by decide) (by omega) (by omega) (sKeep (by decide) (by omega) (by omega) hs4)))
        (first
          | (go_at_call 19; refine (clone_Secret _).mono ?_; rintro e x1 ⟨rfl, rfl⟩)
          | (go_at_call 20; refine (clone_Message _).mono ?_; rintro e x1 ⟨rfl, rfl⟩))
      all_goals go_wp2_with fail
      all_goals go_meet
      all_goals assumption
    case rest =>
      have hs5 := hcut
      clear hcut hs4
      go_upto_region 6 with fail
      go_cut [] from 31 to 38 (fun W => (W.cell? ⟨w.heap.size + 1, 0, none⟩ = some (.slice none 0 0) ∧ W.cell? ⟨w.heap.size + 1, 1, none⟩ = some (.slice none 0 0) ∧ W.cell? ⟨w.heap.size + 1, 2, none⟩ = some (.slice none 0 0) ∧ W.cell? ⟨w.heap.size + 1, 3, none⟩ = some (.slice none 0 0) ∧ W.cell? ⟨w.heap.size + 1, 4, none⟩ = some (.slice none 0 0) ∧ W.cell? ⟨w.heap.size + 1, 5, none⟩ = some (.slice none 0 0)) ∧ (∀ i, W.frozen? ⟨w.heap.size + 1, i, none⟩ = false) ∧ W.heap[w.heap.size + 1]? = some (.cells #[.slice none 0 0, .slice none 0 0, .slice none 0 0, .slice none 0 0, .slice none 0 0, .slice none 0 0, .int .u64 1, .int .i64 0] 42 (0, 0)) ∧ W.heap[w.heap.size]? = some (.cells #[.slice none 0 0, .slice none 0 0, .slice none 0 0, .slice none 0 0, .slice none 0 0, .slice none 0 0, .int .u64 0, .int .i64 0] 42 (0, 0)) ∧ Below w.heap.size w W)
      case first =>
        have hs1 := sDrew hs5
        go_region_held3 (fun W => (W.cell? ⟨w.heap.size + 1, 0, none⟩ = some (.slice none 0 0) ∧ W.cell? ⟨w.heap.size + 1, 1, none⟩ = some (.slice none 0 0) ∧ W.cell? ⟨w.heap.size + 1, 2, none⟩ = some (.slice none 0 0) ∧ W.cell? ⟨w.heap.size + 1, 3, none⟩ = some (.slice none 0 0) ∧ W.cell? ⟨w.heap.size + 1, 4, none⟩ = some (.slice none 0 0) ∧ W.cell? ⟨w.heap.size + 1, 5, none⟩ = some (.slice none 0 0)) ∧ (∀ i, W.frozen? ⟨w.heap.size + 1, i, none⟩ = false) ∧ W.heap[w.heap.size + 1]? = some (.cells #[.slice none 0 0, .slice none 0 0, .slice none 0 0, .slice none 0 0, .slice none 0 0, .slice none 0 0, .int .u64 1, .int .i64 0] 42 (0, 0)) ∧ W.heap[w.heap.size]? = some (.cells #[.slice none 0 0, .slice none 0 0, .slice none 0 0, .slice none 0 0, .slice none 0 0, .slice none 0 0, .int .u64 0, .int .i64 0] 42 (0, 0)) ∧ Below w.heap.size w W)
          (first | exact hs1 | assumption | exact sDrew (sKeep (by decide) (by omega) (by omega) hs5) | exact sDrew (sKeep (by decide) (by omega) (by omega) (sKeep (by decide) (by omega) (by omega) hs5)))
          (first
            | (go_at_call 21; refine (clone_Bucket _).mono ?_; rintro e x1 ⟨rfl, rfl⟩)
            | (go_at_call 22; refine (clone_Case _).mono ?_; rintro e x1 ⟨rfl, rfl⟩))
        all_goals go_wp2_with fail
        all_goals go_meet
        all_goals assumption
      case rest =>
        obtain ⟨⟨e0, e1, e2, e3, e4, e5⟩, _, h3, h2, hb⟩ := hcut
        have e6 : wc.cell? ⟨w.heap.size + 1, 6, none⟩ = some (.int .u64 1) := (cell_of_block h3 6).trans rfl
        have e7 : wc.cell? ⟨w.heap.size + 1, 7, none⟩ = some (.int .i64 0) := (cell_of_block h3 7).trans rfl
        have f2 := free_of_block h2
        have i0 : wc.cell? ⟨w.heap.size, 0, none⟩ = some (.slice none 0 0) := (cell_of_block h2 0).trans rfl
        have i1 : wc.cell? ⟨w.heap.size, 1, none⟩ = some (.slice none 0 0) := (cell_of_block h2 1).trans rfl
        have i2 : wc.cell? ⟨w.heap.size, 2, none⟩ = some (.slice none 0 0) := (cell_of_block h2 2).trans rfl
        have i3 : wc.cell? ⟨w.heap.size, 3, none⟩ = some (.slice none 0 0) := (cell_of_block h2 3).trans rfl
        have i4 : wc.cell? ⟨w.heap.size, 4, none⟩ = some (.slice none 0 0) := (cell_of_block h2 4).trans rfl
        have i5 : wc.cell? ⟨w.heap.size, 5, none⟩ = some (.slice none 0 0) := (cell_of_block h2 5).trans rfl
        have i6 : wc.cell? ⟨w.heap.size, 6, none⟩ = some (.int .u64 0) := (cell_of_block h2 6).trans rfl
        have i7 : wc.cell? ⟨w.heap.size, 7, none⟩ = some (.int .i64 0) := (cell_of_block h2 7).trans rfl
        have H2 := Lib.hid h2
        have HB := Lib.hid hb
        clear h2 h3 hb hs5
        go_wp2_with fail
        generalize hWX : World.setCell _ _ _ = WX
        have hx : WX.heap[w.heap.size]? = some (.cells #[.slice none 0 0, .slice none 0 0, .slice none 0 0, .slice none 0 0, .slice none 0 0, .slice none 0 0, .int .u64 1, .int .i64 0] 42 (0, 0)) := by rw [← hWX]; exact set8 H2.out _ _ _ _ _ _ _ _
        have hbx : Below w.heap.size w WX := by rw [← hWX]; exact (((((((HB.out.setCell (p := ⟨w.heap.size, 0, none⟩) (Nat.le_refl _) _).setCell (p := ⟨w.heap.size, 1, none⟩) (Nat.le_refl _) _).setCell (p := ⟨w.heap.size, 2, none⟩) (Nat.le_refl _) _).setCell (p := ⟨w.heap.size, 3, none⟩) (Nat.le_refl _) _).setCell (p := ⟨w.heap.size, 4, none⟩) (Nat.le_refl _) _).setCell (p := ⟨w.heap.size, 5, none⟩) (Nat.le_refl _) _).setCell (p := ⟨w.heap.size, 6, none⟩) (Nat.le_refl _) _).setCell (p := ⟨w.heap.size, 7, none⟩) (Nat.le_refl _) _
        have y0 : WX.cell? ⟨w.heap.size, 0, none⟩ = some (.slice none 0 0) := (cell_of_block hx 0).trans rfl
        have y1 : WX.cell? ⟨w.heap.size, 1, none⟩ = some (.slice none 0 0) := (cell_of_block hx 1).trans rfl
        have y2 : WX.cell? ⟨w.heap.size, 2, none⟩ = some (.slice none 0 0) := (cell_of_block hx 2).trans rfl
        have y3 : WX.cell? ⟨w.heap.size, 3, none⟩ = some (.slice none 0 0) := (cell_of_block hx 3).trans rfl
        have y4 : WX.cell? ⟨w.heap.size, 4, none⟩ = some (.slice none 0 0) := (cell_of_block hx 4).trans rfl
        have y5 : WX.cell? ⟨w.heap.size, 5, none⟩ = some (.slice none 0 0) := (cell_of_block hx 5).trans rfl
        have y6 : WX.cell? ⟨w.heap.size, 6, none⟩ = some (.int .u64 1) := (cell_of_block hx 6).trans rfl
        have y7 : WX.cell? ⟨w.heap.size, 7, none⟩ = some (.int .i64 0) := (cell_of_block hx 7).trans rfl
        exact bodyPost_ret (v := .agg #[.slice none 0 0, .slice none 0 0, .slice none 0 0, .slice none 0 0, .slice none 0 0, .slice none 0 0, .int .u64 1, .int .i64 0]) (by simp [results, Tryz.results8, go_sem, y0, y1, y2, y3, y4, y5, y6, y7]) rfl ⟨rfl, hbx⟩
end Go.Proofs.YtamoenjempnlhaaGreatDoor
