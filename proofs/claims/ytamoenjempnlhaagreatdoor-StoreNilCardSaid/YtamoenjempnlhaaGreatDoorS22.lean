import Derived.Test.YtamoenjempnlhaaGreatDoorS21
namespace Go.Proofs.YtamoenjempnlhaaGreatDoor
open Go.RowKit
set_option maxRecDepth 100000
set_option maxHeartbeats 3200000 in
theorem wipe1_any (N d s t n q a : Nat) (b : Nat) (wt : Value) (w0 w : World) (h : DiskAt N d s t n wt 0 [] w0 w) (hc : Caps q d a (.int .i64 b) 3 w) (hab : a < b) (hb : b ≤ n) (hba : b < a + 64) (hn0 : 0 < n) (hn : n ≤ 131072) :
    Calls Tryz.prog 44 #[.pointer (some ⟨q, 0, none⟩), .pointer (some ⟨q + 1, 0, none⟩), .pointer (some ⟨q + 2, 0, none⟩)] w fun e w' => e = .returned (.int .i64 0) ∧ (∃ wt', DiskAt N d s t n wt' 0 [] w0 w') ∧ KeptD w w' := by
  have k0 := hc.cells.1
  have hst := fun z w1 (hbw : Below w.heap.size w w1) hz => steps_wipe N d s t n q a z b wt w0 w1 (h.kept hbw) (hc.kept (KeptD.of_below hbw) (by decide) (by decide) (by decide)) hab hb hba hn0 hn hz
  have HST := Lib.hid hst
  clear hst h hc
  go_enter Tryz.func44, Tryz.ntmps44
  go_wp2_with fail
  refine (HST.out _ _ (by (repeat (first | exact Below.refl _ _ | assumption | refine Below.drew ?_ | refine below_drewN ?_ _ | refine Below.alloc ?_ (by first | omega | (simp; done) | (simp; omega) | (simp at *; omega)) _ | refine Below.setCell ?_ (by first | omega | (simp; done) | (simp; omega)) _ | refine Below.trans ?_ (Below.mono (by assumption) (by first | omega | (simp; done) | (simp; omega) | (simp at *; omega)))))) (block_new _ _ _ _ rfl)).mono ?_
  rintro e w1 ⟨rfl, hd1, hk1⟩
  have HD := Lib.hid hd1
  have HK := Lib.hid ((KeptD.of_below ((Below.refl _ w).alloc (Nat.le_refl _) _)).trans hk1)
  clear hd1 hk1
  go_wp2
  go_ret
  exact ⟨rfl, HD.out, HK.out⟩
set_option maxHeartbeats 1600000 in
theorem wipe_any (d a : Nat) (b : Nat) (w : World) :
    Calls Tryz.prog 27 #[.pointer (some ⟨d, 0, none⟩), .int .i64 a, .int .i64 b] w fun e w' => e = .returned (.func (.func 44) #[] #[.pointer (some ⟨w.heap.size, 0, none⟩), .pointer (some ⟨w.heap.size + 1, 0, none⟩), .pointer (some ⟨w.heap.size + 2, 0, none⟩)]) ∧ Caps w.heap.size d a (.int .i64 b) 3 w' ∧ Below w.heap.size w w' := by
  go_enter Tryz.func27, Tryz.ntmps27
  go_wp2
  go_ret
  exact ⟨rfl, ⟨block_old _ (block_old _ (block_new _ _ _ _ rfl) (by simp)) (by simp; omega), block_old _ (block_new _ _ _ _ (by simp)) (by simp), block_new _ _ _ _ (by simp)⟩, by (repeat (first | exact Below.refl _ _ | assumption | refine Below.drew ?_ | refine below_drewN ?_ _ | refine Below.alloc ?_ (by first | omega | (simp; done) | (simp; omega) | (simp at *; omega)) _ | refine Below.setCell ?_ (by first | omega | (simp; done) | (simp; omega)) _ | refine Below.trans ?_ (Below.mono (by assumption) (by first | omega | (simp; done) | (simp; omega) | (simp at *; omega)))))⟩
set_option maxHeartbeats 3200000 in
theorem put1_any (N d s t n q a : Nat) (x : ByteArray) (wt : Value) (w0 w : World) (h : DiskAt N d s t n wt 0 [] w0 w) (hc : Caps q d a (.string x) 9 w) (hx : x.size = 10) (hb : a + 18 ≤ n) (hn0 : 0 < n) (hn : n ≤ 131072) :
    Calls Tryz.prog 116 #[.pointer (some ⟨q, 0, none⟩), .pointer (some ⟨q + 1, 0, none⟩), .pointer (some ⟨q + 2, 0, none⟩)] w fun e w' => e = .returned (.int .i64 0) ∧ (∃ wt', DiskAt N d s t n wt' 0 [] w0 w') ∧ KeptD w w' := by
  have k0 := hc.cells.1
  have hst := fun z w1 (hbw : Below w.heap.size w w1) hz => steps_put N d s t n q a z x wt w0 w1 (h.kept hbw) (hc.kept (KeptD.of_below hbw) (by decide) (by decide) (by decide)) hx hb hn0 hn hz
  have HST := Lib.hid hst
  clear hst h hc
  go_enter Tryz.func116, Tryz.ntmps116
  go_wp2_with fail
  refine (HST.out _ _ (by (repeat (first | exact Below.refl _ _ | assumption | refine Below.drew ?_ | refine below_drewN ?_ _ | refine Below.alloc ?_ (by first | omega | (simp; done) | (simp; omega) | (simp at *; omega)) _ | refine Below.setCell ?_ (by first | omega | (simp; done) | (simp; omega)) _ | refine Below.trans ?_ (Below.mono (by assumption) (by first | omega | (simp; done) | (simp; omega) | (simp at *; omega)))))) (block_new _ _ _ _ rfl)).mono ?_
  rintro e w1 ⟨rfl, hd1, hk1⟩
  have HD := Lib.hid hd1
  have HK := Lib.hid ((KeptD.of_below ((Below.refl _ w).alloc (Nat.le_refl _) _)).trans hk1)
  clear hd1 hk1
  go_wp2
  go_ret
  exact ⟨rfl, HD.out, HK.out⟩
set_option maxHeartbeats 1600000 in
theorem put_any (d a : Nat) (x : ByteArray) (w : World) :
    Calls Tryz.prog 52 #[.pointer (some ⟨d, 0, none⟩), .int .i64 a, .string x] w fun e w' => e = .returned (.func (.func 116) #[] #[.pointer (some ⟨w.heap.size, 0, none⟩), .pointer (some ⟨w.heap.size + 1, 0, none⟩), .pointer (some ⟨w.heap.size + 2, 0, none⟩)]) ∧ Caps w.heap.size d a (.string x) 9 w' ∧ Below w.heap.size w w' := by
  go_enter Tryz.func52, Tryz.ntmps52
  go_wp2
  go_ret
  exact ⟨rfl, ⟨block_old _ (block_old _ (block_new _ _ _ _ rfl) (by simp)) (by simp; omega), block_old _ (block_new _ _ _ _ (by simp)) (by simp), block_new _ _ _ _ (by simp)⟩, by (repeat (first | exact Below.refl _ _ | assumption | refine Below.drew ?_ | refine below_drewN ?_ _ | refine Below.alloc ?_ (by first | omega | (simp; done) | (simp; omega) | (simp at *; omega)) _ | refine Below.setCell ?_ (by first | omega | (simp; done) | (simp; omega)) _ | refine Below.trans ?_ (Below.mono (by assumption) (by first | omega | (simp; done) | (simp; omega) | (simp at *; omega)))))⟩
end Go.Proofs.YtamoenjempnlhaaGreatDoor
