import Derived.Test.YtamoenjempnlhaaGreatDoorS8
namespace Go.Proofs.YtamoenjempnlhaaGreatDoor
open Go.RowKit
set_option maxRecDepth 100000
theorem mkMap (t : TypeId) (w : World) : (Instr.makeMap t none).run Tryz.prog w = .ok (.map (some w.heap.size)) (w.alloc (.map #[] 0)) := rfl
set_option maxHeartbeats 1600000 in
theorem vCheck_nil (w : World) : Calls Tryz.prog 120 #[.slice none 0 0] w fun e w' => e = .returned (.bool true) ∧ Below w.heap.size w w' := by
  have hmk := mkMap
  go_enter Tryz.func120, Tryz.ntmps120
  go_wp2_with fail
  go_loopg [9] 0 (fun g v wr => v = .int .i64 0 ∧ Below w.heap.size w wr)
  case atStart => exact ⟨rfl, by (repeat (first | exact Below.refl _ _ | assumption | refine Below.drew ?_ | refine below_drewN ?_ _ | refine Below.alloc ?_ (by first | omega | (simp; done) | (simp; omega) | (simp at *; omega)) _ | refine Below.setCell ?_ (by first | omega | (simp; done) | (simp; omega)) _ | refine Below.trans ?_ (Below.mono (by assumption) (by first | omega | (simp; done) | (simp; omega) | (simp at *; omega)))))⟩
  case round =>
    obtain ⟨rfl, hb⟩ := hrel
    go_wp2
    go_ret
    exact ⟨rfl, hb⟩
set_option maxHeartbeats 1600000 in
theorem oCheck_nil (w : World) : Calls Tryz.prog 121 #[.slice none 0 0] w fun e w' => e = .returned (.bool true) ∧ Below w.heap.size w w' := by
  go_enter Tryz.func121, Tryz.ntmps121
  go_wp2_with fail
  go_loopg [8] 0 (fun g v wr => v = .int .i64 0 ∧ Below w.heap.size w wr)
  case atStart => exact ⟨rfl, by (repeat (first | exact Below.refl _ _ | assumption | refine Below.drew ?_ | refine below_drewN ?_ _ | refine Below.alloc ?_ (by first | omega | (simp; done) | (simp; omega) | (simp at *; omega)) _ | refine Below.setCell ?_ (by first | omega | (simp; done) | (simp; omega)) _ | refine Below.trans ?_ (Below.mono (by assumption) (by first | omega | (simp; done) | (simp; omega) | (simp at *; omega)))))⟩
  case round =>
    obtain ⟨rfl, hb⟩ := hrel
    go_wp2
    go_ret
    exact ⟨rfl, hb⟩
set_option maxHeartbeats 1600000 in
theorem bCheck_nil (w : World) : Calls Tryz.prog 122 #[.slice none 0 0] w fun e w' => e = .returned (.bool true) ∧ Below w.heap.size w w' := by
  go_enter Tryz.func122, Tryz.ntmps122
  go_wp2_with fail
  go_loopg [8] 0 (fun g v wr => v = .int .i64 0 ∧ Below w.heap.size w wr)
  case atStart => exact ⟨rfl, by (repeat (first | exact Below.refl _ _ | assumption | refine Below.drew ?_ | refine below_drewN ?_ _ | refine Below.alloc ?_ (by first | omega | (simp; done) | (simp; omega) | (simp at *; omega)) _ | refine Below.setCell ?_ (by first | omega | (simp; done) | (simp; omega)) _ | refine Below.trans ?_ (Below.mono (by assumption) (by first | omega | (simp; done) | (simp; omega) | (simp at *; omega)))))⟩
  case round =>
    obtain ⟨rfl, hb⟩ := hrel
    go_wp2
    go_ret
    exact ⟨rfl, hb⟩
set_option maxHeartbeats 1600000 in
theorem cCheck_nil (w : World) : Calls Tryz.prog 123 #[.slice none 0 0] w fun e w' => e = .returned (.bool true) ∧ Below w.heap.size w w' := by
  go_enter Tryz.func123, Tryz.ntmps123
  go_wp2_with fail
  go_loopg [8] 0 (fun g v wr => v = .int .i64 0 ∧ Below w.heap.size w wr)
  case atStart => exact ⟨rfl, by (repeat (first | exact Below.refl _ _ | assumption | refine Below.drew ?_ | refine below_drewN ?_ _ | refine Below.alloc ?_ (by first | omega | (simp; done) | (simp; omega) | (simp at *; omega)) _ | refine Below.setCell ?_ (by first | omega | (simp; done) | (simp; omega)) _ | refine Below.trans ?_ (Below.mono (by assumption) (by first | omega | (simp; done) | (simp; omega) | (simp at *; omega)))))⟩
  case round =>
    obtain ⟨rfl, hb⟩ := hrel
    go_wp2
    go_ret
    exact ⟨rfl, hb⟩
set_option maxHeartbeats 1600000 in
theorem pCheck_nil (w : World) : Calls Tryz.prog 119 #[.agg #[.slice none 0 0, .slice none 0 0]] w fun e w' => e = .returned (.bool true) ∧ Below w.heap.size w w' := by
  have hmk := mkMap
  go_enter Tryz.func119, Tryz.ntmps119
  go_wp2_with fail
  generalize hW0 : World.alloc _ _ = W0
  have hg0 : W0.heap[w.heap.size]? = some (.cells #[.slice none 0 0, .slice none 0 0] 35 (0, 0)) := by rw [← hW0]; exact block_old _ (block_new _ _ _ _ rfl) (by simp)
  have hb0 : Below w.heap.size w W0 := by rw [← hW0]; (repeat (first | exact Below.refl _ _ | assumption | refine Below.drew ?_ | refine below_drewN ?_ _ | refine Below.alloc ?_ (by first | omega | (simp; done) | (simp; omega) | (simp at *; omega)) _ | refine Below.setCell ?_ (by first | omega | (simp; done) | (simp; omega)) _ | refine Below.trans ?_ (Below.mono (by assumption) (by first | omega | (simp; done) | (simp; omega) | (simp at *; omega)))))
  have c0 : W0.cell? ⟨w.heap.size, 0, none⟩ = some (.slice none 0 0) := (cell_of_block hg0 0).trans rfl
  have c1 : W0.cell? ⟨w.heap.size, 1, none⟩ = some (.slice none 0 0) := (cell_of_block hg0 1).trans rfl
  have hl0 := lt_of_block' hg0
  clear hW0
  go_wp2_with fail
  go_loopg [16] 0 (fun g v wr => v = .int .i64 0 ∧ wr = W0)
  case atStart => exact ⟨rfl, rfl⟩
  case round =>
    obtain ⟨rfl, rfl⟩ := hrel
    go_wp2_with fail
    go_loopg [45] 0 (fun g v w2 => v = .int .i64 0 ∧ w2 = wr.alloc (.map #[] 0))
    case atStart => exact ⟨rfl, rfl⟩
    case round =>
      obtain ⟨rfl, rfl⟩ := hrel
      go_wp2
      go_ret
      exact ⟨rfl, hb0.alloc hb0.size _⟩
set_option maxHeartbeats 1600000 in
theorem index_nil (f : Value) (w : World) : Calls Tryz.prog 184 #[.slice none 0 0, f] w fun e w' => e = .returned (.int .i64 (-1)) ∧ w' = w := by
  go_enter Tryz.func184, Tryz.ntmps184
  go_wp2_with fail
  go_loopg [8] 0 (fun g v wr => v = .int .i64 0 ∧ wr = w)
  case atStart => exact ⟨rfl, rfl⟩
  case round =>
    obtain ⟨rfl, rfl⟩ := hrel
    go_wp2
    go_ret
    exact ⟨rfl, rfl⟩
set_option maxHeartbeats 1600000 in
theorem contains_nil (f : Value) (w : World) : Calls Tryz.prog 124 #[.slice none 0 0, f] w fun e w' => e = .returned (.bool false) ∧ w' = w := by
  go_enter Tryz.func124, Tryz.ntmps124
  go_wp2_with (go_at_call 184; refine (index_nil f _).mono ?_; rintro e w1 ⟨rfl, rfl⟩)
  go_ret
  exact ⟨rfl, rfl⟩
set_option maxHeartbeats 1600000 in
theorem stNew_any (w : World) : Calls Tryz.prog 29 #[] w fun e w' => e = .returned (.agg #[.slice none 0 0, .slice none 0 0, .slice none 0 0, .slice none 0 0, .slice none 0 0, .slice none 0 0, .int .u64 1, .int .i64 0]) ∧ Below w.heap.size w w' := by
  go_enter Tryz.func29, Tryz.ntmps29
  go_wp2
  exact bodyPost_ret (v := .agg #[.slice none 0 0, .slice none 0 0, .slice none 0 0, .slice none 0 0, .slice none 0 0, .slice none 0 0, .int .u64 1, .int .i64 0]) (by simp [results, Tryz.results29, go_sem]) rfl ⟨rfl, by (repeat (first | exact Below.refl _ _ | assumption | refine Below.drew ?_ | refine below_drewN ?_ _ | refine Below.alloc ?_ (by first | omega | (simp; done) | (simp; omega) | (simp at *; omega)) _ | refine Below.setCell ?_ (by first | omega | (simp; done) | (simp; omega)) _ | refine Below.trans ?_ (Below.mono (by assumption) (by first | omega | (simp; done) | (simp; omega) | (simp at *; omega)))))⟩
theorem keep8 {b N : Nat} {v0 v1 v2 v3 v4 v5 v6 v7 : Value} {T : TypeId} {w W W' : World} (hb : Below W.heap.size W W') (h : W.heap[b]? = some (.cells #[v0, v1, v2, v3, v4, v5, v6, v7] T (0, 0)) ∧ Below N w W ∧ N ≤ W.heap.size) :
    (W'.heap[b]? = some (.cells #[v0, v1, v2, v3, v4, v5, v6, v7] T (0, 0)) ∧ Below N w W' ∧ N ≤ W'.heap.size) ∧ W'.cell? ⟨b, 0, none⟩ = some v0 ∧ W'.cell? ⟨b, 1, none⟩ = some v1 ∧ W'.cell? ⟨b, 2, none⟩ = some v2 ∧ W'.cell? ⟨b, 3, none⟩ = some v3 ∧ W'.cell? ⟨b, 4, none⟩ = some v4 ∧ W'.cell? ⟨b, 5, none⟩ = some v5 ∧ W'.cell? ⟨b, 6, none⟩ = some v6 ∧ W'.cell? ⟨b, 7, none⟩ = some v7 := by
  obtain ⟨h1, h2, h3⟩ := h
  have e := (hb.block b (lt_of_block' h1)).trans h1
  have hs := hb.size
  exact ⟨⟨e, h2.trans (hb.mono h3), by omega⟩, (cell_of_block e 0).trans rfl, (cell_of_block e 1).trans rfl, (cell_of_block e 2).trans rfl, (cell_of_block e 3).trans rfl, (cell_of_block e 4).trans rfl, (cell_of_block e 5).trans rfl, (cell_of_block e 6).trans rfl, (cell_of_block e 7).trans rfl⟩
set_option maxHeartbeats 3200000 in
theorem stCheck_new (w : World) : Calls Tryz.prog 54 #[.agg #[.slice none 0 0, .slice none 0 0, .slice none 0 0, .slice none 0 0, .slice none 0 0, .slice none 0 0, .int .u64 1, .int .i64 0]] w fun e w' => e = .returned (.bool true) ∧ Below w.heap.size w w' := by
  have hv := vCheck_nil
  have ho := oCheck_nil
  have hbk := bCheck_nil
  have hc := cCheck_nil
  have hp := pCheck_nil
  have HV := Lib.hid hv
  have HO := Lib.hid ho
  have HBK := Lib.hid hbk
  have HC := Lib.hid hc
  have HP := Lib.hid hp
  clear hv ho hbk hc hp
  go_enter Tryz.func54, Tryz.ntmps54
  go_wp2_with fail
  have hK0 : (w.alloc (.cells #[.slice none 0 0, .slice none 0 0, .slice none 0 0, .slice none 0 0, .slice none 0 0, .slice none 0 0, .int .u64 1, .int .i64 0] 42)).heap[w.heap.size]? = some (.cells #[.slice none 0 0, .slice none 0 0, .slice none 0 0, .slice none 0 0, .slice none 0 0, .slice none 0 0, .int .u64 1, .int .i64 0] 42 (0, 0)) ∧ Below w.heap.size w (w.alloc (.cells #[.slice none 0 0, .slice none 0 0, .slice none 0 0, .slice none 0 0, .slice none 0 0, .slice none 0 0, .int .u64 1, .int .i64 0] 42)) ∧ w.heap.size ≤ (w.alloc (.cells #[.slice none 0 0, .slice none 0 0, .slice none 0 0, .slice none 0 0, .slice none 0 0, .slice none 0 0, .int .u64 1, .int .i64 0] 42)).heap.size := ⟨block_new _ _ _ _ rfl, by (repeat (first | exact Below.refl _ _ | assumption | refine Below.drew ?_ | refine below_drewN ?_ _ | refine Below.alloc ?_ (by first | omega | (simp; done) | (simp; omega) | (simp at *; omega)) _ | refine Below.setCell ?_ (by first | omega | (simp; done) | (simp; omega)) _ | refine Below.trans ?_ (Below.mono (by assumption) (by first | omega | (simp; done) | (simp; omega) | (simp at *; omega))))), by simp⟩
  have K0 := Lib.hid hK0
  clear hK0
  refine (HP.out _).mono ?_
  rintro e w1 ⟨rfl, hb1⟩
  obtain ⟨hk1, a0, a1, a2, a3, a4, a5, a6, a7⟩ := keep8 hb1 K0.out
  have K1 := Lib.hid hk1
  clear hk1 hb1 K0
  go_wp2_with (first
    | (go_at_call 120
       refine (HV.out _).mono ?_
       rintro e w2 ⟨rfl, hb2⟩
       obtain ⟨hk2, b0, b1, b2, b3, b4, b5, b6, b7⟩ := keep8 hb2 K1.out
       have K2 := Lib.hid hk2
       clear hk2 hb2)
    | (go_at_call 121
       refine (HO.out _).mono ?_
       rintro e w3 ⟨rfl, hb3⟩
       obtain ⟨hk3, c0, c1, c2, c3, c4, c5, c6, c7⟩ := keep8 hb3 K2.out
       have K3 := Lib.hid hk3
       clear hk3 hb3)
    | (go_at_call 122
       refine (HBK.out _).mono ?_
       rintro e w4 ⟨rfl, hb4⟩
       obtain ⟨hk4, d0, d1, d2, d3, d4, d5, d6, d7⟩ := keep8 hb4 K3.out
       have K4 := Lib.hid hk4
       clear hk4 hb4)
    | (go_at_call 123
       refine (HC.out _).mono ?_
       rintro e w5 ⟨rfl, hb5⟩
       obtain ⟨hk5, e0, e1, e2, e3, e4, e5, e6, e7⟩ := keep8 hb5 K4.out
       have K5 := Lib.hid hk5
       clear hk5 hb5)
    | (go_at_call 124; refine (contains_nil _ _).mono ?_; rintro e w6 ⟨rfl, rfl⟩)
    | fail)
  go_ret
  exact ⟨rfl, K5.out.2.1⟩
end Go.Proofs.YtamoenjempnlhaaGreatDoor
