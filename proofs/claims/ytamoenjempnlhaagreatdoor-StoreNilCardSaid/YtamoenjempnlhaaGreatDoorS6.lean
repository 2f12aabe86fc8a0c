import Derived.Test.YtamoenjempnlhaaGreatDoorS5
namespace Go.Proofs.YtamoenjempnlhaaGreatDoor
open Go.RowKit
set_option maxRecDepth 100000
def heldC : Array Value := #[.int .u64 0, .string ⟨#[]⟩, .slice none 0 0, .int .i64 0]
theorem set4 {w : World} {b : Nat} {t : TypeId} {a0 a1 a2 a3 : Value} (h : w.heap[b]? = some (.cells #[a0, a1, a2, a3] t (0, 0))) (v0 v1 v2 v3 : Value) :
    (((((w.setCell ⟨b, 0, none⟩ v0).setCell ⟨b, 1, none⟩ v1).setCell ⟨b, 2, none⟩ v2).setCell ⟨b, 3, none⟩ v3)).heap[b]? = some (.cells #[v0, v1, v2, v3] t (0, 0)) := by
  have e := setCell_block (setCell_block (setCell_block (setCell_block h 0 v0) 1 v1) 2 v2) 3 v3
  rw [e]
  simp
theorem below_set4 {B b : Nat} {a w : World} (h : Below B a w) (hb : B ≤ b) (v0 v1 v2 v3 : Value) : Below B a ((((w.setCell ⟨b, 0, none⟩ v0).setCell ⟨b, 1, none⟩ v1).setCell ⟨b, 2, none⟩ v2).setCell ⟨b, 3, none⟩ v3) :=
  (((h.setCell (p := ⟨b, 0, none⟩) hb _).setCell (p := ⟨b, 1, none⟩) hb _).setCell (p := ⟨b, 2, none⟩) hb _).setCell (p := ⟨b, 3, none⟩) hb _
set_option maxHeartbeats 3200000 in
theorem look_zero (B d s t n h : Nat) (w : World) (hd : DiskZ B d s t n w) (hh : h < 2) (hn0 : 2 ≤ n) (hn : n ≤ 131072) :
    Calls Tryz.prog 43 #[.pointer (some ⟨d, 0, none⟩), .int .i64 h] w fun e w' => e = .returned (.tuple #[(.agg #[.int .u64 0, .string ⟨#[]⟩, .slice none 0 0, .int .i64 0]), .int .i64 0]) ∧ Below w.heap.size w w' := by
  obtain ⟨k, hk⟩ : ∃ k, k = n / 2 := ⟨_, rfl⟩
  have hk0 : 0 < k := by omega
  have hkn : k ≤ 65536 := by omega
  have hhk : h * k + k ≤ n := by
    have : h = 0 ∨ h = 1 := by omega
    rcases this with rfl | rfl <;> omega
  have hsz := fun w1 (hb : Below w.heap.size w w1) => size_any d s n w1 (hd.below hb).cells.1 hn
  rw [← hk] at hsz
  have hrd := fun w1 (hb : Below w.heap.size w w1) => read_any B d s t n (h * k) k w1 (hd.below hb) hhk hk0 hn
  have hsc := fun w => scan_zero k w (by omega)
  have hmul : IntKind.i64.wrap ((h : Int) * k) = ((h * k : Nat) : Int) := by
    rw [Int.natCast_mul, IntKind.wrap_i64]
    have : h = 0 ∨ h = 1 := by omega
    rcases this with rfl | rfl <;> omega
  have hmul' : wrap64 ((h : Int) * k) = ((h * k : Nat) : Int) := by
    rw [Int.natCast_mul]; unfold wrap64
    have : h = 0 ∨ h = 1 := by omega
    rcases this with rfl | rfl <;> omega
  have HSZ := Lib.hid hsz
  have HRD := Lib.hid hrd
  have HSC := Lib.hid hsc
  generalize zeroL k = z at HRD HSC
  clear hsz hrd hsc hk hhk hd
  go_enter Tryz.func43, Tryz.ntmps43
  go_wp2_with (first
    | (go_at_call 28; refine (HSZ.out _ (by (repeat (first | exact Below.refl _ _ | assumption | refine Below.drew ?_ | refine below_drewN ?_ _ | refine Below.alloc ?_ (by first | omega | (simp; done) | (simp; omega) | (simp at *; omega)) _ | refine Below.setCell ?_ (by first | omega | (simp; done) | (simp; omega)) _ | refine Below.trans ?_ (Below.mono (by assumption) (by first | omega | (simp; done) | (simp; omega) | (simp at *; omega))))))).mono ?_; rintro e w1 ⟨rfl, rfl⟩)
    | (go_at_call 105; refine (HRD.out _ (by (repeat (first | exact Below.refl _ _ | assumption | refine Below.drew ?_ | refine below_drewN ?_ _ | refine Below.alloc ?_ (by first | omega | (simp; done) | (simp; omega) | (simp at *; omega)) _ | refine Below.setCell ?_ (by first | omega | (simp; done) | (simp; omega)) _ | refine Below.trans ?_ (Below.mono (by assumption) (by first | omega | (simp; done) | (simp; omega) | (simp at *; omega))))))).mono ?_; rintro e w2 ⟨rfl, rfl⟩)
    | (go_at_call 106
       refine (HSC.out _).mono ?_
       rintro e w3 ⟨rfl, hb3⟩
       have hx : w3.heap[w.heap.size]? = some (.cells #[.int .u64 0, .string ⟨#[]⟩, .slice none 0 0, .int .i64 0] 87 (0, 0)) := (hb3.block _ (by simp)).trans (block_new _ _ _ _ rfl)
       have c0 : w3.cell? ⟨w.heap.size, 0, none⟩ = some (.int .u64 0) := (cell_of_block hx 0).trans rfl
       have c1 : w3.cell? ⟨w.heap.size, 1, none⟩ = some (.string ⟨#[]⟩) := (cell_of_block hx 1).trans rfl
       have c2 : w3.cell? ⟨w.heap.size, 2, none⟩ = some (.slice none 0 0) := (cell_of_block hx 2).trans rfl
       have c3 : w3.cell? ⟨w.heap.size, 3, none⟩ = some (.int .i64 0) := (cell_of_block hx 3).trans rfl
       have cf : ∀ j, w3.frozen? ⟨w.heap.size, j, none⟩ = false := free_of_block hx
       have hbw : Below w.heap.size w w3 := Below.trans (by (repeat (first | exact Below.refl _ _ | assumption | refine Below.drew ?_ | refine below_drewN ?_ _ | refine Below.alloc ?_ (by first | omega | (simp; done) | (simp; omega) | (simp at *; omega)) _ | refine Below.setCell ?_ (by first | omega | (simp; done) | (simp; omega)) _ | refine Below.trans ?_ (Below.mono (by assumption) (by first | omega | (simp; done) | (simp; omega) | (simp at *; omega)))))) (Below.mono hb3 (by first | omega | (simp; done) | (simp; omega)))
       have HX := Lib.hid hx
       have HBW := Lib.hid hbw
       clear hx hb3 hbw)
    | fail)
  generalize hW : World.setCell _ _ _ = W
  have hx : W.heap[w.heap.size]? = some (.cells #[.int .u64 0, .string ⟨#[]⟩, .slice none 0 0, .int .i64 0] 87 (0, 0)) := by rw [← hW]; exact set4 HX.out _ _ _ _
  have hbx : Below w.heap.size w W := by rw [← hW]; exact below_set4 HBW.out (Nat.le_refl _) _ _ _ _
  have y0 : W.cell? ⟨w.heap.size, 0, none⟩ = some (.int .u64 0) := (cell_of_block hx 0).trans rfl
  have y1 : W.cell? ⟨w.heap.size, 1, none⟩ = some (.string ⟨#[]⟩) := (cell_of_block hx 1).trans rfl
  have y2 : W.cell? ⟨w.heap.size, 2, none⟩ = some (.slice none 0 0) := (cell_of_block hx 2).trans rfl
  have y3 : W.cell? ⟨w.heap.size, 3, none⟩ = some (.int .i64 0) := (cell_of_block hx 3).trans rfl
  exact bodyPost_ret (v := .tuple #[(.agg #[.int .u64 0, .string ⟨#[]⟩, .slice none 0 0, .int .i64 0]), .int .i64 0]) (by simp [results, Tryz.results43, go_sem, y0, y1, y2, y3]) rfl ⟨rfl, hbx⟩
end Go.Proofs.YtamoenjempnlhaaGreatDoor
