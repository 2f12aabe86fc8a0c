import Derived.Test.YtamoenjempnlhaaGreatDoorS7
namespace Go.Proofs.YtamoenjempnlhaaGreatDoor
open Go.RowKit
set_option maxRecDepth 100000
set_option maxHeartbeats 3200000 in
theorem hOpen_nil (w : World) :
    Calls Tryz.prog 11 #[.pointer none] w fun e w' => e = .returned (.tuple #[.pointer none, .agg #[.int .u64 0, .string ⟨#[]⟩, .slice none 0 0], .int .i64 1]) ∧ Below w.heap.size w w' := by
  go_enter Tryz.func11, Tryz.ntmps11
  go_wp2_with fail
  exact bodyPost_ret (v := .tuple #[.pointer none, .agg #[.int .u64 0, .string ⟨#[]⟩, .slice none 0 0], .int .i64 1]) (by simp [results, Tryz.results11, go_sem]) rfl ⟨rfl, by (repeat (first | exact Below.refl _ _ | assumption | refine Below.drew ?_ | refine below_drewN ?_ _ | refine Below.alloc ?_ (by first | omega | (simp; done) | (simp; omega) | (simp at *; omega)) _ | refine Below.setCell ?_ (by first | omega | (simp; done) | (simp; omega)) _ | refine Below.trans ?_ (Below.mono (by assumption) (by first | omega | (simp; done) | (simp; omega) | (simp at *; omega)))))⟩
theorem set3 {w : World} {b : Nat} {t : TypeId} {a0 a1 a2 : Value} (h : w.heap[b]? = some (.cells #[a0, a1, a2] t (0, 0))) (v0 v1 v2 : Value) :
    ((((w.setCell ⟨b, 0, none⟩ v0).setCell ⟨b, 1, none⟩ v1).setCell ⟨b, 2, none⟩ v2)).heap[b]? = some (.cells #[v0, v1, v2] t (0, 0)) := by
  have e := setCell_block (setCell_block (setCell_block h 0 v0) 1 v1) 2 v2
  rw [e]
  simp
theorem below_set3 {B b : Nat} {a w : World} (h : Below B a w) (hb : B ≤ b) (v0 v1 v2 : Value) : Below B a (((w.setCell ⟨b, 0, none⟩ v0).setCell ⟨b, 1, none⟩ v1).setCell ⟨b, 2, none⟩ v2) :=
  ((h.setCell (p := ⟨b, 0, none⟩) hb _).setCell (p := ⟨b, 1, none⟩) hb _).setCell (p := ⟨b, 2, none⟩) hb _
set_option maxHeartbeats 3200000 in
theorem hOpen_zero (B d s t n : Nat) (w : World) (hd : DiskZ B d s t n w) (hn0 : 2 ≤ n) (hn : n ≤ 131072) :
    Calls Tryz.prog 11 #[.pointer (some ⟨d, 0, none⟩)] w fun e w' => e = .returned (.tuple #[.pointer none, .agg #[.int .u64 0, .string ⟨#[]⟩, .slice none 0 0], .int .i64 12]) ∧ Below w.heap.size w w' := by
  have hnw := fun w1 (hb : Below w.heap.size w w1) => newest_zero B d s t n w1 (hd.below hb) hn0 hn
  have HNW := Lib.hid hnw
  clear hnw hd
  go_enter Tryz.func11, Tryz.ntmps11
  go_wp2_with (first
    | (go_at_call 25
       refine (HNW.out _ (by (repeat (first | exact Below.refl _ _ | assumption | refine Below.drew ?_ | refine below_drewN ?_ _ | refine Below.alloc ?_ (by first | omega | (simp; done) | (simp; omega) | (simp at *; omega)) _ | refine Below.setCell ?_ (by first | omega | (simp; done) | (simp; omega)) _ | refine Below.trans ?_ (Below.mono (by assumption) (by first | omega | (simp; done) | (simp; omega) | (simp at *; omega))))))).mono ?_
       rintro e w1 ⟨rfl, hb1⟩
       have hx : w1.heap[w.heap.size]? = some (.cells #[.int .u64 0, .string ⟨#[]⟩, .slice none 0 0] 49 (0, 0)) := (hb1.block _ (by simp)).trans (block_new _ _ _ _ rfl)
       have c0 : w1.cell? ⟨w.heap.size, 0, none⟩ = some (.int .u64 0) := (cell_of_block hx 0).trans rfl
       have c1 : w1.cell? ⟨w.heap.size, 1, none⟩ = some (.string ⟨#[]⟩) := (cell_of_block hx 1).trans rfl
       have c2 : w1.cell? ⟨w.heap.size, 2, none⟩ = some (.slice none 0 0) := (cell_of_block hx 2).trans rfl
       have cf : ∀ j, w1.frozen? ⟨w.heap.size, j, none⟩ = false := free_of_block hx
       have hl1 : w.heap.size < w1.heap.size := lt_of_block' hx
       have hbw : Below w.heap.size w w1 := Below.trans (by (repeat (first | exact Below.refl _ _ | assumption | refine Below.drew ?_ | refine below_drewN ?_ _ | refine Below.alloc ?_ (by first | omega | (simp; done) | (simp; omega) | (simp at *; omega)) _ | refine Below.setCell ?_ (by first | omega | (simp; done) | (simp; omega)) _ | refine Below.trans ?_ (Below.mono (by assumption) (by first | omega | (simp; done) | (simp; omega) | (simp at *; omega)))))) (Below.mono hb1 (by first | omega | (simp; done) | (simp; omega)))
       have HX := Lib.hid hx
       have HBW := Lib.hid hbw
       clear hx hb1 hbw)
    | fail)
  generalize hW : World.setCell _ _ _ = W
  have hx : W.heap[w.heap.size]? = some (.cells #[.int .u64 0, .string ⟨#[]⟩, .slice none 0 0] 49 (0, 0)) := by rw [← hW]; exact set3 HX.out _ _ _
  have hbx : Below w.heap.size w W := by rw [← hW]; exact below_set3 HBW.out (Nat.le_refl _) _ _ _
  have y0 : W.cell? ⟨w.heap.size, 0, none⟩ = some (.int .u64 0) := (cell_of_block hx 0).trans rfl
  have y1 : W.cell? ⟨w.heap.size, 1, none⟩ = some (.string ⟨#[]⟩) := (cell_of_block hx 1).trans rfl
  have y2 : W.cell? ⟨w.heap.size, 2, none⟩ = some (.slice none 0 0) := (cell_of_block hx 2).trans rfl
  have hlW := lt_of_block' hx
  exact bodyPost_ret (v := .tuple #[.pointer none, .agg #[.int .u64 0, .string ⟨#[]⟩, .slice none 0 0], .int .i64 12]) (by simp [results, Tryz.results11, go_sem, y0, y1, y2, hlW]) rfl ⟨rfl, hbx.alloc hbx.size _⟩
end Go.Proofs.YtamoenjempnlhaaGreatDoor
