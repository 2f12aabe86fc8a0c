import Derived.Test.YtamoenjempnlhaaGreatDoorS6
namespace Go.Proofs.YtamoenjempnlhaaGreatDoor
open Go.RowKit
set_option maxRecDepth 100000
set_option maxHeartbeats 3200000 in
theorem newest_zero (B d s t n : Nat) (w : World) (hd : DiskZ B d s t n w) (hn0 : 2 ≤ n) (hn : n ≤ 131072) :
    Calls Tryz.prog 25 #[.pointer (some ⟨d, 0, none⟩)] w fun e w' => e = .returned (.tuple #[.int .i64 0, (.agg #[.int .u64 0, .string ⟨#[]⟩, .slice none 0 0, .int .i64 0]), .int .i64 0]) ∧ Below w.heap.size w w' := by
  have hlk := fun (j : Nat) w1 (hj : j < 2) (hb : Below w.heap.size w w1) => look_zero B d s t n j w1 (hd.below hb) hj hn0 hn
  have HLK := Lib.hid hlk
  clear hlk hd
  go_enter Tryz.func25, Tryz.ntmps25
  go_wp2_with fail
  generalize hW0 : World.alloc _ _ = W0
  have hg0 : W0.heap[w.heap.size]? = some (.cells #[.int .u64 0, .string ⟨#[]⟩, .slice none 0 0, .int .i64 0] 87 (0, 0)) := by rw [← hW0]; exact block_new _ _ _ _ rfl
  have hb0 : Below w.heap.size w W0 := by rw [← hW0]; (repeat (first | exact Below.refl _ _ | assumption | refine Below.drew ?_ | refine below_drewN ?_ _ | refine Below.alloc ?_ (by first | omega | (simp; done) | (simp; omega) | (simp at *; omega)) _ | refine Below.setCell ?_ (by first | omega | (simp; done) | (simp; omega)) _ | refine Below.trans ?_ (Below.mono (by assumption) (by first | omega | (simp; done) | (simp; omega) | (simp at *; omega)))))
  have HG0 := Lib.hid hg0
  clear hg0 hW0
  go_step3
  go_wp2_with fail
  go_step3
  go_wp2_with fail
  go_loopg [2, 8] 2 (fun g u v wr => ∃ j : Nat, g = 2 - j ∧ j ≤ 2 ∧ u = .int .i64 0 ∧ v = .int .i64 j ∧ wr.heap[w.heap.size]? = some (.cells #[.int .u64 0, .string ⟨#[]⟩, .slice none 0 0, .int .i64 0] 87 (0, 0)) ∧ Below w.heap.size w wr)
  case atStart => exact ⟨0, rfl, by omega, rfl, rfl, HG0.out, hb0⟩
  case round =>
    obtain ⟨j, rfl, hj, rfl, rfl, hg, hb⟩ := hrel
    have HG := Lib.hid hg
    have HB := Lib.hid hb
    clear hg hb HG0 hb0
    by_cases hjl : j < 2
    · go_wp2_with (first
        | (go_at_call 43; refine (HLK.out j _ hjl HB.out).mono ?_; rintro e w1 ⟨rfl, hb1⟩)
        | fail)
      go_roundg (2 - (j + 1))
      case measure => omega
      case rel => exact ⟨j + 1, rfl, by omega, rfl, by go_num, block_old _ ((hb1.block _ (lt_of_block' HG.out)).trans HG.out) (by have := lt_of_block' HG.out; have := hb1.size; omega), (HB.out.trans (hb1.mono HB.out.size)).alloc (Nat.le_trans HB.out.size hb1.size) _⟩
    · obtain rfl : j = 2 := by omega
      rw [show ((2 : Nat) : Int) = 2 from rfl]
      have c0 : wr.cell? ⟨w.heap.size, 0, none⟩ = some (.int .u64 0) := (cell_of_block HG.out 0).trans rfl
      have c1 : wr.cell? ⟨w.heap.size, 1, none⟩ = some (.string ⟨#[]⟩) := (cell_of_block HG.out 1).trans rfl
      have c2 : wr.cell? ⟨w.heap.size, 2, none⟩ = some (.slice none 0 0) := (cell_of_block HG.out 2).trans rfl
      have c3 : wr.cell? ⟨w.heap.size, 3, none⟩ = some (.int .i64 0) := (cell_of_block HG.out 3).trans rfl
      have cf : ∀ j, wr.frozen? ⟨w.heap.size, j, none⟩ = false := free_of_block HG.out
      go_wp2_with fail
      go_region
      all_goals go_wp2
      rw [Exit.noGoto_ret]
      generalize hW : World.setCell _ _ _ = W
      have hx : W.heap[w.heap.size]? = some (.cells #[.int .u64 0, .string ⟨#[]⟩, .slice none 0 0, .int .i64 0] 87 (0, 0)) := by rw [← hW]; exact set4 HG.out _ _ _ _
      have hbx : Below w.heap.size w W := by rw [← hW]; exact below_set4 HB.out (Nat.le_refl _) _ _ _ _
      have y0 : W.cell? ⟨w.heap.size, 0, none⟩ = some (.int .u64 0) := (cell_of_block hx 0).trans rfl
      have y1 : W.cell? ⟨w.heap.size, 1, none⟩ = some (.string ⟨#[]⟩) := (cell_of_block hx 1).trans rfl
      have y2 : W.cell? ⟨w.heap.size, 2, none⟩ = some (.slice none 0 0) := (cell_of_block hx 2).trans rfl
      have y3 : W.cell? ⟨w.heap.size, 3, none⟩ = some (.int .i64 0) := (cell_of_block hx 3).trans rfl
      exact bodyPost_ret (v := .tuple #[.int .i64 0, .agg #[.int .u64 0, .string ⟨#[]⟩, .slice none 0 0, .int .i64 0], .int .i64 0]) (by simp [results, Tryz.results25, go_sem, y0, y1, y2, y3]) rfl ⟨rfl, hbx.drew⟩
end Go.Proofs.YtamoenjempnlhaaGreatDoor
