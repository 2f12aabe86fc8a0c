import Derived.Test.YtamoenjempnlhaaGreatDoorS12
import Derived.Deep.DeepCutAuto
namespace Go.Proofs.YtamoenjempnlhaaGreatDoor
open Go.RowKit
set_option maxRecDepth 100000
/-- While a state is written: its block st, the writer b, the variable b + 1 that points to it. -/
structure Writing (N st b : Nat) (w W : World) : Prop where
  hst : W.heap[st]? = some (.cells #[.slice none 0 0, .slice none 0 0, .slice none 0 0, .slice none 0 0, .slice none 0 0, .slice none 0 0, .int .u64 1, .int .i64 0] 42 (0, 0))
  hv : W.heap[b + 1]? = some (.cells #[.pointer (some ⟨b, 0, none⟩)] 103 (0, 0))
  hbw : Below N w W
  hN : N ≤ st
  lt : st < b
theorem Writing.next {N st b : Nat} {bs : List Value} {w W W' : World} (h : Writing N st b w W) (hw : Wrote b b bs W W') : Writing N st b w W' :=
  ⟨(hw.below.block st h.lt).trans h.hst, (hw.kept _ _ _ _ h.hv (by decide) (by omega)).trans h.hv, h.hbw.trans (hw.below.mono (by have := h.hN; have := h.lt; omega)), h.hN, h.lt⟩
theorem Writing.alloc {N st b : Nat} {w W : World} (h : Writing N st b w W) (o : Obj) : Writing N st b w (W.alloc o) :=
  ⟨block_old _ h.hst (lt_of_block' h.hst), block_old _ h.hv (lt_of_block' h.hv), h.hbw.alloc (by have := lt_of_block' h.hst; have := h.hN; omega) _, h.hN, h.lt⟩
theorem Writing.cells {N st b : Nat} {w W : World} (h : Writing N st b w W) : W.cell? ⟨b + 1, 0, none⟩ = some (.pointer (some ⟨b, 0, none⟩)) ∧ W.cell? ⟨st, 0, none⟩ = some (.slice none 0 0) ∧ W.cell? ⟨st, 1, none⟩ = some (.slice none 0 0) ∧ W.cell? ⟨st, 2, none⟩ = some (.slice none 0 0) ∧ W.cell? ⟨st, 3, none⟩ = some (.slice none 0 0) ∧ W.cell? ⟨st, 4, none⟩ = some (.slice none 0 0) ∧ W.cell? ⟨st, 5, none⟩ = some (.slice none 0 0) ∧ W.cell? ⟨st, 6, none⟩ = some (.int .u64 1) ∧ W.cell? ⟨st, 7, none⟩ = some (.int .i64 0) :=
  ⟨(cell_of_block h.hv 0).trans rfl, (cell_of_block h.hst 0).trans rfl, (cell_of_block h.hst 1).trans rfl, (cell_of_block h.hst 2).trans rfl, (cell_of_block h.hst 3).trans rfl, (cell_of_block h.hst 4).trans rfl, (cell_of_block h.hst 5).trans rfl, (cell_of_block h.hst 6).trans rfl, (cell_of_block h.hst 7).trans rfl⟩
set_option maxHeartbeats 1600000 in
theorem wString_any (B b : Nat) (l : List UInt8) (w : World) (h : IsW B b (Lib.byteCells l) w) (h0 : l ≠ []) :
    Calls Tryz.prog 38 #[.pointer (some ⟨b, 0, none⟩)] w fun e w' => e = .returned (.string ⟨l.toArray⟩) ∧ Below B w w' := by
  go_enter Tryz.func38, Tryz.ntmps38
  go_wp2_with (go_at_call 91; refine (stringW_any B b l _ h h0).mono ?_; rintro e w1 ⟨rfl, hb⟩)
  go_ret
  exact ⟨rfl, hb⟩
theorem fresh_isW (W : World) (b : Nat) (h : W.heap[b]? = some (.cells #[.pointer none, .slice none 0 0] 110 (0, 0))) : IsW b b [] W :=
  Or.inl ⟨Nat.le_refl _, .slice none 0 0, h, ⟨rfl, Or.inl ⟨rfl, rfl⟩⟩, by intro h; cases h⟩
set_option maxHeartbeats 6400000 in
theorem bytes_new (w : World) : Calls Tryz.prog 31 #[.agg #[.slice none 0 0, .slice none 0 0, .slice none 0 0, .slice none 0 0, .slice none 0 0, .slice none 0 0, .int .u64 1, .int .i64 0]] w fun e w' => e = .returned (.string ⟨#[1, 0, 0, 0, 0, 0, 0, 0]⟩) ∧ Below w.heap.size w w' := by
  have hck := stCheck_new
  have HCK := Lib.hid hck
  clear hck
  go_enter Tryz.func31, Tryz.ntmps31
  go_wp2_with fail
  generalize hW0 : World.alloc _ _ = W0
  have hg0 : W0.heap[w.heap.size]? = some (.cells #[.slice none 0 0, .slice none 0 0, .slice none 0 0, .slice none 0 0, .slice none 0 0, .slice none 0 0, .int .u64 1, .int .i64 0] 42 (0, 0)) := by rw [← hW0]; exact block_new _ _ _ _ rfl
  have hb0 : Below w.heap.size w W0 := by rw [← hW0]; (repeat (first | exact Below.refl _ _ | assumption | refine Below.drew ?_ | refine below_drewN ?_ _ | refine Below.alloc ?_ (by first | omega | (simp; done) | (simp; omega) | (simp at *; omega)) _ | refine Below.setCell ?_ (by first | omega | (simp; done) | (simp; omega)) _ | refine Below.trans ?_ (Below.mono (by assumption) (by first | omega | (simp; done) | (simp; omega) | (simp at *; omega)))))
  refine (HCK.out _).mono ?_
  rintro e w1 ⟨rfl, hb1⟩
  have hl0 := lt_of_block' hg0
  have hg1 := (hb1.block _ hl0).trans hg0
  have hl1 := lt_of_block' hg1
  have hbw1 : Below w.heap.size w w1 := hb0.trans (hb1.mono hb0.size)
  have HG1 := Lib.hid hg1
  have HB1 := Lib.hid hbw1
  clear hW0 hg0 hb0 hb1 hg1 hbw1 hl0
  go_upto_region 4 with fail
  generalize hW2 : World.alloc _ _ = W2
  have hwr : Writing w.heap.size w.heap.size w1.heap.size w W2 := by
    rw [← hW2]
    exact ⟨block_old _ (block_old _ HG1.out hl1) (by simp; omega), block_new _ _ _ _ (by simp), (HB1.out.alloc (Nat.le_of_lt hl1) _).alloc (by simp; omega) _, Nat.le_refl _, hl1⟩
  have hi2 : IsW w1.heap.size w1.heap.size [] W2 := by
    rw [← hW2]
    exact fresh_isW _ _ (block_old _ (block_new _ _ _ _ rfl) (by simp))
  have hlb2 := isW_lt hi2
  obtain ⟨b, hb⟩ : ∃ b, b = w1.heap.size := ⟨_, rfl⟩
  rw [← hb] at hwr hi2 hl1 hlb2 ⊢
  obtain ⟨a9, a0, a1, a2, a3, a4, a5, a6, a7⟩ := hwr.cells
  have K0 := Lib.hid hwr
  have I0 := Lib.hid hi2
  clear hW2 hwr hi2 HG1 HB1 hb
  go_wp2_with (first
    | (go_at_call 55
       refine (nums2_any b b 1 0 _ [] _ (isW_alloc I0.out _) (by decide) (by decide) (by decide) (by simp; omega) (block_new _ _ _ _ rfl) (by omega)).mono ?_
       rintro e x0 ⟨rfl, hwa⟩
       have hk := (K0.out.alloc (.cells #[.int .i64 1, .int .i64 0] 2)).next hwa
       obtain ⟨a9, a0, a1, a2, a3, a4, a5, a6, a7⟩ := hk.cells
       have hs0 := isW_lt hwa.isw
       have K1 := Lib.hid hk
       have I1 := Lib.hid hwa.isw
       clear hk hwa)
    | (go_at_call 56
       refine (rows_Person b b _ _ _ I1.out (by simp) (by omega)).mono ?_
       rintro e x1 ⟨rfl, hwa⟩
       have hk := K1.out.next hwa
       obtain ⟨a9, a0, a1, a2, a3, a4, a5, a6, a7⟩ := hk.cells
       have hs1 := isW_lt hwa.isw
       have K2 := Lib.hid hk
       have I2 := Lib.hid hwa.isw
       clear hk hwa)
    | (go_at_call 62
       refine (rows_Session b b _ _ _ I2.out (by simp) (by omega)).mono ?_
       rintro e x2 ⟨rfl, hwa⟩
       have hk := K2.out.next hwa
       obtain ⟨a9, a0, a1, a2, a3, a4, a5, a6, a7⟩ := hk.cells
       have hs2 := isW_lt hwa.isw
       have K3 := Lib.hid hk
       have I3 := Lib.hid hwa.isw
       clear hk hwa)
    | (go_at_call 64
       refine (rows_Secret b b _ _ _ I3.out (by simp) (by omega)).mono ?_
       rintro e x3 ⟨rfl, hwa⟩
       have hk := K3.out.next hwa
       obtain ⟨a9, a0, a1, a2, a3, a4, a5, a6, a7⟩ := hk.cells
       have hs3 := isW_lt hwa.isw
       have K4 := Lib.hid hk
       have I4 := Lib.hid hwa.isw
       clear hk hwa)
    | (go_at_call 66
       refine (rows_Message b b _ _ _ I4.out (by simp) (by omega)).mono ?_
       rintro e x4 ⟨rfl, hwa⟩
       have hk := K4.out.next hwa
       obtain ⟨a9, a0, a1, a2, a3, a4, a5, a6, a7⟩ := hk.cells
       have hs4 := isW_lt hwa.isw
       have K5 := Lib.hid hk
       have I5 := Lib.hid hwa.isw
       clear hk hwa)
    | (go_at_call 68
       refine (rows_Bucket b b _ _ _ I5.out (by simp) (by omega)).mono ?_
       rintro e x5 ⟨rfl, hwa⟩
       have hk := K5.out.next hwa
       obtain ⟨a9, a0, a1, a2, a3, a4, a5, a6, a7⟩ := hk.cells
       have hs5 := isW_lt hwa.isw
       have K6 := Lib.hid hk
       have I6 := Lib.hid hwa.isw
       clear hk hwa)
    | (go_at_call 70
       refine (rows_Case b b _ _ _ I6.out (by simp) (by omega)).mono ?_
       rintro e x6 ⟨rfl, hwa⟩
       have hk := K6.out.next hwa
       obtain ⟨a9, a0, a1, a2, a3, a4, a5, a6, a7⟩ := hk.cells
       have hs6 := isW_lt hwa.isw
       have K7 := Lib.hid hk
       have I7 := Lib.hid hwa.isw
       clear hk hwa)
    | fail)
  have hfin : IsW b b (Lib.byteCells [1, 0, 0, 0, 0, 0, 0, 0]) x6 := I7.out
  refine (wString_any b b [1, 0, 0, 0, 0, 0, 0, 0] _ hfin (by decide)).mono ?_
  rintro e x7 ⟨rfl, hb7⟩
  have HB7 := Lib.hid (K7.out.hbw.trans (hb7.mono (by omega)))
  clear hb7 hfin
  go_wp2
  go_ret
  exact ⟨rfl, HB7.out⟩
end Go.Proofs.YtamoenjempnlhaaGreatDoor
