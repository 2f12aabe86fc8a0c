import Derived.Test.YtamoenjempnlhaaGreatDoorS4
namespace Go.Proofs.YtamoenjempnlhaaGreatDoor
open Go.RowKit
set_option maxRecDepth 100000
set_option maxHeartbeats 3200000 in
theorem scan_zero (k : Nat) (w : World) (hk : k ≤ 131072) :
    Calls Tryz.prog 106 #[.string (zeroL k)] w fun e w' => e = .returned (.tuple #[.slice none 0 0, .int .i64 0]) ∧ Below w.heap.size w w' := by
  refine callsIn_wide.1 (callsIn_of_wp_marks (n := 0) Tryz.func106 rfl trivial ((wpIn_wide).2 ?_))
  simp only [Tryz.ntmps106, List.size_toArray, List.length_cons, List.length_nil, Nat.reduceAdd, Nat.reduceSub, Array.replicate_succ, Array.replicate_zero, List.push_toArray, List.append_toArray, List.nil_append, List.cons_append]
  go_wp2_with (first
    | (go_at_call 170; refine (records_any _ _).mono ?_; rintro e w1 ⟨rfl, hS, hb1⟩)
    | fail)
  have hbA : Below w.heap.size w ((w.alloc (.cells #[.slice none 0 0] 47)).alloc (.cells #[.int .i64 0] 3)) := by (repeat (first | exact Below.refl _ _ | assumption | refine Below.drew ?_ | refine below_drewN ?_ _ | refine Below.alloc ?_ (by first | omega | (simp; done) | (simp; omega) | (simp at *; omega)) _ | refine Below.setCell ?_ (by first | omega | (simp; done) | (simp; omega)) _ | refine Below.trans ?_ (Below.mono (by assumption) (by first | omega | (simp; done) | (simp; omega) | (simp at *; omega)))))
  generalize hWA : (World.alloc (World.alloc _ _) _) = WA at hS hb1 hbA
  have hg0 : WA.heap[w.heap.size]? = some (.cells #[.slice none 0 0] 47 (0, 0)) := by rw [← hWA]; exact block_old _ (block_new _ _ _ _ rfl) (by simp)
  have hg1 : WA.heap[w.heap.size + 1]? = some (.cells #[.int .i64 0] 3 (0, 0)) := by rw [← hWA]; exact block_new _ _ _ _ (by simp)
  have hzA : WA.heap.size = w.heap.size + 1 + 1 := by rw [← hWA]; simp
  rw [hzA] at hS
  have hb1w : Below w.heap.size w w1 := hbA.trans (hb1.mono (by omega))
  have hk0 := (hb1.block w.heap.size (by omega)).trans hg0
  have hk1 := (hb1.block (w.heap.size + 1) (by omega)).trans hg1
  have hHS := Lib.hid hS
  have hHB := Lib.hid hb1w
  have hHK0 := Lib.hid hk0
  have hHK1 := Lib.hid hk1
  clear hS hb1 hbA hWA hg0 hg1 hzA hb1w hk0 hk1
  refine wp_range_none k (w.heap.size + 1 + 1) 1 hk rfl hHS.out (fun D W hD hb hDl hdf => ?_)
  have l1 := lt_of_block' hHK1.out
  have z0 := (hb.block w.heap.size (by omega)).trans hHK0.out
  have z1 := (hb.block (w.heap.size + 1) (by omega)).trans hHK1.out
  have c0 : W.cell? ⟨w.heap.size, 0, none⟩ = some (.slice none 0 0) := (cell_of_block z0 0).trans rfl
  have c1 : W.cell? ⟨w.heap.size + 1, 0, none⟩ = some (.int .i64 0) := (cell_of_block z1 0).trans rfl
  have HF := Lib.hid hdf
  have HBW := Lib.hid (hHB.out.trans (hb.mono hHB.out.size))
  clear z0 z1 hdf hb hHS hHB hHK0 hHK1
  go_wp2_with fail
  go_quiet (fail)
  go_wp2
  refine ⟨by simp, .inl ⟨_, _, rfl, run_takeDeferred (show (W.drewN nq).heap[D]? = _ from HF.out), ?_⟩⟩
  refine ⟨_, results_tmp2 rfl _ _ _, rfl, below_putObj (below_drewN HBW.out nq) (by omega) _⟩
end Go.Proofs.YtamoenjempnlhaaGreatDoor
