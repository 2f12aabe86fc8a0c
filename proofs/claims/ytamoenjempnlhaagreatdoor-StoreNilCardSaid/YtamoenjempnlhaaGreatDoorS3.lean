import Derived.Test.YtamoenjempnlhaaGreatDoorS2
namespace Go.Proofs.YtamoenjempnlhaaGreatDoor
open Go.RowKit
set_option maxRecDepth 100000
def zeroL (k : Nat) : ByteArray := ⟨(List.replicate k (0 : UInt8)).toArray⟩
theorem conv_zero (w : World) (t a k cap : Nat) (h : ∀ j, j < k → w.cell? ⟨t, a + j, none⟩ = some (.int .u8 0)) : (convert 58 9 (.slice (some ⟨t, a, none⟩) k cap)).run Tryz.prog w = .ok (.string (zeroL k)) w := by
  have := run_convert_bytes_back (P := Tryz.prog) w 58 9 5 ⟨t, a, none⟩ cap (List.replicate k 0) Tryz.underlying58 Tryz.underlying5 Tryz.underlying9 (fun j hj => by
    rw [show (⟨t, a, none⟩ : Addr).add j = ⟨t, a + j, none⟩ by unfold Addr.add; split <;> simp_all, h j (by simpa using hj), List.getElem_replicate]
    rfl)
  rw [List.length_replicate] at this
  exact this
set_option maxHeartbeats 1600000 in
theorem read_any (B d s t n : Nat) (a k : Nat) (w : World) (hd : DiskZ B d s t n w) (hk : a + k ≤ n) (hk0 : 0 < k) (hn : n ≤ 131072) :
    Calls Tryz.prog 105 #[.pointer (some ⟨d, 0, none⟩), .int .i64 a, .int .i64 k] w fun e w' => e = .returned (.tuple #[.string (zeroL k), .int .i64 0]) ∧ w' = w := by
  obtain ⟨h0, h1, h2, h3, h4⟩ := hd.cells
  have hcv := conv_zero w t a k (n - a) (fun j hj => (cell_of_block hd.tz (a + j)).trans (made_at n (a + j) (by omega)))
  have hm := may_any d s n a k w h0 hk hn
  have hsum : IntKind.i64.wrap ((a : Int) + k) = ((a + k : Nat) : Int) := by rw [IntKind.wrap_i64]; omega
  have HM := Lib.hid hm
  clear hm
  go_enter Tryz.func105, Tryz.ntmps105
  go_wp2_with (go_at_call 108; refine HM.out.mono ?_; rintro e w1 ⟨rfl, rfl⟩)
  go_ret2
  exact ⟨rfl, rfl⟩
end Go.Proofs.YtamoenjempnlhaaGreatDoor
