import Derived.Test.YtamoenjempnlhaaGreatDoorS26
namespace Go.Proofs.YtamoenjempnlhaaGreatDoor
open Go.RowKit
set_option maxRecDepth 100000
theorem field5 (v : Value) (w : World) : (Instr.field 42 (.agg #[.slice none 0 0, .slice none 0 0, .slice none 0 0, .slice none 0 0, .slice none 0 0, .slice none 0 0, v, .int .i64 0]) 5).run Tryz.prog w = .ok v w := by kernel_rfl
set_option maxHeartbeats 3200000 in
theorem awake_any (w : World) : Calls Tryz.prog 6 #[] w fun e w' => e = .returned (.bool true) ∧ Below w.heap.size w w' := by
  have hfd := field5
  go_enter Tryz.func6, Tryz.ntmps6
  go_wp2_with fail
  refine (newDisk_any 100 w (by decide) (by decide)).mono ?_
  rintro e w1 ⟨⟨d, s, t, rfl, hd⟩, hb1⟩
  have hop := sOpen_ok d s t w.heap.size w w1 hd hb1 hb1.size
  have HOP := Lib.hid hop
  clear hop hd hb1
  go_wp2_with fail
  refine HOP.out.mono ?_
  rintro e w2 ⟨⟨S, L, v3, rfl, hS, hL⟩, hb2⟩
  have hst := state_ok S _ w2 hS
  have hsl := lt_of_block' hS
  have hll := lt_of_block' hL
  have HST := Lib.hid hst
  have HS := Lib.hid hS
  have HL := Lib.hid hL
  have HB2 := Lib.hid hb2
  clear hst hS hL hb2
  go_wp2_with (first
    | (go_at_call 8
       refine HST.out.mono ?_
       rintro e w3 ⟨rfl, hb3⟩
       have hS3 := (hb3.block _ hsl).trans HS.out
       have hL3 := (hb3.block _ hll).trans HL.out
       have m0 : w3.cell? ⟨S, 0, none⟩ = some (.pointer (some ⟨L, 0, none⟩)) := (cell_of_block hS3 0).trans rfl
       have m2 : w3.cell? ⟨L, 2, none⟩ = some (.int .u64 1) := (cell_of_block hL3 2).trans rfl
       have HB3 := Lib.hid (HB2.out.trans (hb3.mono HB2.out.size))
       clear hS3 hL3 hb3)
    | (go_at_call 10; refine (epoch_ok S L _ m0 m2).mono ?_; rintro e w4 ⟨rfl, hw4⟩; obtain rfl := hw4)
    | fail)
  go_ret
  exact ⟨rfl, HB3.out⟩
set_option maxHeartbeats 3200000 in
theorem storeNil_any (e0 e1 e2 e3 e4 e5 e6 e7 : Value) (w : World) :
    Calls Tryz.prog 3 #[.agg #[e0, e1, e2, e3, e4, e5, e6, e7]] w fun e w' => e = .returned (.bool true) ∧ Below w.heap.size w w' := by
  have hfd := field5
  go_enter Tryz.func3, Tryz.ntmps3
  go_wp2_with fail
  generalize hW0 : World.alloc _ _ = W0
  have hx0 : W0.heap[w.heap.size]? = some (.cells #[e0, e1, e2, e3, e4, e5, e6, e7] 23 (0, 0)) := by rw [← hW0]; exact block_new _ _ _ _ rfl
  have hb0 : Below w.heap.size w W0 := by rw [← hW0]; (repeat (first | exact Below.refl _ _ | assumption | refine Below.drew ?_ | refine below_drewN ?_ _ | refine Below.alloc ?_ (by first | omega | (simp; done) | (simp; omega) | (simp at *; omega)) _ | refine Below.setCell ?_ (by first | omega | (simp; done) | (simp; omega)) _ | refine Below.trans ?_ (Below.mono (by assumption) (by first | omega | (simp; done) | (simp; omega) | (simp at *; omega)))))
  have HX0 := Lib.hid hx0
  have HB0 := Lib.hid hb0
  clear hW0 hx0 hb0
  refine (sOpen_nil W0).mono ?_
  rintro e w1 ⟨rfl, hb1⟩
  have hx1 := (hb1.block _ (lt_of_block' HX0.out)).trans HX0.out
  have HX1 := Lib.hid hx1
  have HB1 := Lib.hid (HB0.out.trans (hb1.mono HB0.out.size))
  clear hx1 hb1
  go_wp2_with fail
  refine (newDisk_any 9 w1 (by decide) (by decide)).mono ?_
  rintro e w2 ⟨⟨d, s, t, rfl, hd⟩, hb2⟩
  have hx2 := (hb2.block _ (lt_of_block' HX1.out)).trans HX1.out
  have hop := sOpen_small _ d s t 9 w2 hd (by decide) (by decide)
  have HOP := Lib.hid hop
  have HX2 := Lib.hid hx2
  have HB2 := Lib.hid (HB1.out.trans (hb2.mono HB1.out.size))
  clear hop hd hx2 hb2
  go_wp2_with fail
  refine HOP.out.mono ?_
  rintro e w3 ⟨rfl, hb3⟩
  have hx3 := (hb3.block _ (lt_of_block' HX2.out)).trans HX2.out
  have HX3 := Lib.hid hx3
  have HB3 := Lib.hid (HB2.out.trans (hb3.mono HB2.out.size))
  clear hx3 hb3
  go_wp2_with fail
  refine (awake_any w3).mono ?_
  rintro e w4 ⟨rfl, hb4⟩
  have hx4 := (hb4.block _ (lt_of_block' HX3.out)).trans HX3.out
  have c0 : w4.cell? ⟨w.heap.size, 0, none⟩ = some e0 := (cell_of_block hx4 0).trans rfl
  have c1 : w4.cell? ⟨w.heap.size, 1, none⟩ = some e1 := (cell_of_block hx4 1).trans rfl
  have c2 : w4.cell? ⟨w.heap.size, 2, none⟩ = some e2 := (cell_of_block hx4 2).trans rfl
  have c3 : w4.cell? ⟨w.heap.size, 3, none⟩ = some e3 := (cell_of_block hx4 3).trans rfl
  have c4 : w4.cell? ⟨w.heap.size, 4, none⟩ = some e4 := (cell_of_block hx4 4).trans rfl
  have c5 : w4.cell? ⟨w.heap.size, 5, none⟩ = some e5 := (cell_of_block hx4 5).trans rfl
  have c6 : w4.cell? ⟨w.heap.size, 6, none⟩ = some e6 := (cell_of_block hx4 6).trans rfl
  have c7 : w4.cell? ⟨w.heap.size, 7, none⟩ = some e7 := (cell_of_block hx4 7).trans rfl
  have HB4 := Lib.hid (HB3.out.trans (hb4.mono HB3.out.size))
  clear hx4 hb4
  go_wp2_with (first
    | (go_at_call 7; refine (commit_nil _ _).mono ?_; rintro e w5 ⟨rfl, hw5⟩; obtain rfl := hw5)
    | (go_at_call 8; refine (state_nil _).mono ?_; rintro e w6 ⟨rfl, hb6⟩)
    | (go_at_call 9; refine (broken_nil _).mono ?_; rintro e w7 ⟨rfl, hw7⟩; obtain rfl := hw7)
    | (go_at_call 10; refine (epoch_nil _).mono ?_; rintro e w8 ⟨rfl, hw8⟩; obtain rfl := hw8)
    | fail)
  go_ret
  exact ⟨rfl, (HB4.out.alloc HB4.out.size _).trans (hb6.mono (by have := HB4.out.size; simp; omega))⟩
end Go.Proofs.YtamoenjempnlhaaGreatDoor
