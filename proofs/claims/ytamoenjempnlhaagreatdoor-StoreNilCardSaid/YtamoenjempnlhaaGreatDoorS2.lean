import Derived.Test.YtamoenjempnlhaaGreatDoorS1
import Derived.Laws.MakeOwn
import Derived.Laws.IdiomStrings
namespace Go.Proofs.YtamoenjempnlhaaGreatDoor
open Go.RowKit
set_option maxRecDepth 100000
theorem makeN (w : World) (n : Nat) (hn : n ≤ 131072) : (Instr.makeSlice 58 (.int .i64 n) (.int .i64 n)).run Tryz.prog w = .ok (.slice (some ⟨w.heap.size, 0, none⟩) n n) (w.alloc (.cells (madeCells #[.int .u8 0] n) 5)) := by
  obtain ⟨i, hi, hz, hs, hb⟩ := info_parts info_byte
  have hm := run_make w 58 5 i (.int .u8 0) Tryz.underlying58 hi hz .i64 .i64 n n (by omega) (by omega) (by rw [hb]; omega) (by omega)
  rw [hs] at hm
  simpa [Value.cells] using hm
theorem made_at (n j : Nat) (hj : j < n) : (madeCells #[.int .u8 0] n)[j]? = some (.int .u8 0) := by
  simp only [madeCells]
  rw [Array.getElem?_map, Array.getElem?_range, if_pos hj]
  simp [Nat.mod_one]
theorem ret_int {k : IntKind} {a b : Int} (h : a = b) : Ending.returned (.int k a) = .returned (.int k b) := by rw [h]
theorem ret_bool {a b : Bool} (h : a = b) : Ending.returned (.bool a) = .returned (.bool b) := by rw [h]
def diskC (s t n : Nat) (wt : Value) : Array Value := #[.slice (some ⟨s, 0, none⟩) n n, .slice (some ⟨t, 0, none⟩) n n, wt, .int .i64 0, .bool false]
/-- A new disk: d: its block; s, t: its rows, of n zeros. -/
structure DiskZ (B d s t n : Nat) (w : World) : Prop where
  blk : w.heap[d]? = some (.cells (diskC s t n (.slice none 0 0)) 61 (0, 0))
  sz : w.heap[s]? = some (.cells (madeCells #[.int .u8 0] n) 5 (0, 0))
  tz : w.heap[t]? = some (.cells (madeCells #[.int .u8 0] n) 5 (0, 0))
  ne : s ≠ t
  hd : B ≤ d
  hs : B ≤ s
  ht : B ≤ t
theorem DiskZ.below {B d s t n : Nat} {w w' : World} (h : DiskZ B d s t n w) (hb : Below w.heap.size w w') : DiskZ B d s t n w' :=
  ⟨(hb.block d (lt_of_block' h.blk)).trans h.blk, (hb.block s (lt_of_block' h.sz)).trans h.sz, (hb.block t (lt_of_block' h.tz)).trans h.tz, h.ne, h.hd, h.hs, h.ht⟩
set_option maxHeartbeats 1600000 in
theorem newDisk_any (n : Nat) (w : World) (h1 : 1 ≤ n) (hn : n ≤ 131072) :
    Calls Tryz.prog 5 #[.int .i64 n] w fun e w' => (∃ d s t, e = .returned (.pointer (some ⟨d, 0, none⟩)) ∧ DiskZ w.heap.size d s t n w') ∧ Below w.heap.size w w' := by
  have hmk := fun w => makeN w n hn
  have d1 : decide ((n : Int) < 1) = false := by simp; omega
  have d2 : decide ((131072 : Int) < n) = false := by simp; omega
  generalize hC : madeCells #[.int .u8 0] n = C at hmk
  go_enter Tryz.func5, Tryz.ntmps5
  go_wp2_with fail
  go_region
  all_goals go_wp2
  all_goals go_ret
  all_goals subst hC
  · refine ⟨⟨_, w.heap.size, w.heap.size + 1, rfl, ?_⟩, by (repeat (first | exact Below.refl _ _ | assumption | refine Below.drew ?_ | refine below_drewN ?_ _ | refine Below.alloc ?_ (by first | omega | (simp; done) | (simp; omega) | (simp at *; omega)) _ | refine Below.setCell ?_ (by first | omega | (simp; done) | (simp; omega)) _ | refine Below.trans ?_ (Below.mono (by assumption) (by first | omega | (simp; done) | (simp; omega) | (simp at *; omega)))))⟩
    exact ⟨block_new _ _ _ _ (by simp), block_old _ (block_old _ (block_new _ _ _ _ rfl) (by simp)) (by first | omega | (simp; done) | (simp; omega)), block_old _ (block_new _ _ _ _ (by simp)) (by simp), by simp, by omega, by simp, by simp⟩
  · refine ⟨⟨_, w.heap.size + 1, w.heap.size, rfl, ?_⟩, by (repeat (first | exact Below.refl _ _ | assumption | refine Below.drew ?_ | refine below_drewN ?_ _ | refine Below.alloc ?_ (by first | omega | (simp; done) | (simp; omega) | (simp at *; omega)) _ | refine Below.setCell ?_ (by first | omega | (simp; done) | (simp; omega)) _ | refine Below.trans ?_ (Below.mono (by assumption) (by first | omega | (simp; done) | (simp; omega) | (simp at *; omega)))))⟩
    exact ⟨block_new _ _ _ _ (by simp), block_old _ (block_new _ _ _ _ (by simp)) (by simp), block_old _ (block_old _ (block_new _ _ _ _ rfl) (by simp)) (by first | omega | (simp; done) | (simp; omega)), by simp, by omega, by simp, by simp⟩
theorem DiskZ.cells {B d s t n : Nat} {w : World} (h : DiskZ B d s t n w) : w.cell? ⟨d, 0, none⟩ = some (.slice (some ⟨s, 0, none⟩) n n) ∧ w.cell? ⟨d, 1, none⟩ = some (.slice (some ⟨t, 0, none⟩) n n) ∧ w.cell? ⟨d, 2, none⟩ = some (.slice none 0 0) ∧ w.cell? ⟨d, 3, none⟩ = some (.int .i64 0) ∧ w.cell? ⟨d, 4, none⟩ = some (.bool false) :=
  ⟨(cell_of_block h.blk 0).trans rfl, (cell_of_block h.blk 1).trans rfl, (cell_of_block h.blk 2).trans rfl, (cell_of_block h.blk 3).trans rfl, (cell_of_block h.blk 4).trans rfl⟩
set_option maxHeartbeats 1600000 in
theorem dSize_any (d s n : Nat) (w : World) (h0 : w.cell? ⟨d, 0, none⟩ = some (.slice (some ⟨s, 0, none⟩) n n)) :
    Calls Tryz.prog 49 #[.pointer (some ⟨d, 0, none⟩)] w fun e w' => e = .returned (.int .i64 n) ∧ w' = w := by
  go_enter Tryz.func49, Tryz.ntmps49
  go_wp2
  go_ret
  exact ⟨rfl, rfl⟩
set_option maxHeartbeats 1600000 in
theorem size_any (d s n : Nat) (w : World) (h0 : w.cell? ⟨d, 0, none⟩ = some (.slice (some ⟨s, 0, none⟩) n n)) (hn : n ≤ 131072) :
    Calls Tryz.prog 28 #[.pointer (some ⟨d, 0, none⟩)] w fun e w' => e = .returned (.int .i64 ((n / 2 : Nat) : Int)) ∧ w' = w := by
  go_enter Tryz.func28, Tryz.ntmps28
  go_wp2_with (go_at_call 49; refine (dSize_any d s n _ h0).mono ?_; rintro e w1 ⟨rfl, rfl⟩)
  go_ret
  exact ⟨ret_int (by omega), rfl⟩
set_option maxHeartbeats 1600000 in
theorem may_any (d s n : Nat) (a k : Nat) (w : World) (h0 : w.cell? ⟨d, 0, none⟩ = some (.slice (some ⟨s, 0, none⟩) n n)) (hk : a + k ≤ n) (hn : n ≤ 131072) :
    Calls Tryz.prog 108 #[.pointer (some ⟨d, 0, none⟩), .int .i64 a, .int .i64 k] w fun e w' => e = .returned (.bool true) ∧ w' = w := by
  have d1 : decide ((0 : Int) ≤ a) = true := by simp
  have d2 : decide ((0 : Int) ≤ k) = true := by simp
  have d3 : decide ((a : Int) ≤ (n : Int) - k) = true := by simp; omega
  go_enter Tryz.func108, Tryz.ntmps108
  go_wp2
  go_ret
  exact ⟨rfl, rfl⟩
end Go.Proofs.YtamoenjempnlhaaGreatDoor
