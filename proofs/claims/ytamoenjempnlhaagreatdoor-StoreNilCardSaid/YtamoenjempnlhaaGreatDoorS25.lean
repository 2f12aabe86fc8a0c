import Derived.Test.YtamoenjempnlhaaGreatDoorS24
namespace Go.Proofs.YtamoenjempnlhaaGreatDoor
open Go.RowKit
set_option maxRecDepth 100000
theorem bytes_new' (w : World) : Calls Tryz.prog 31 #[.agg #[.slice none 0 0, .slice none 0 0, .slice none 0 0, .slice none 0 0, .slice none 0 0, .slice none 0 0, .int .u64 1, .int .i64 0]] w fun e w' => e = .returned (.string snap8) ∧ Below w.heap.size w w' := bytes_new w
set_option maxHeartbeats 3200000 in
theorem begin_small (B d s t n : Nat) (w : World) (hd : DiskZ B d s t n w) (hn0 : 2 ≤ n) (hn : n < 36) :
    Calls Tryz.prog 12 #[.pointer (some ⟨d, 0, none⟩)] w fun e w' => e = .returned (.tuple #[.pointer none, .int .i64 15]) ∧ Below w.heap.size w w' := by
  have hfm := fun w1 (hb : Below w.heap.size w w1) => format_small B d s t n w1 (hd.below hb) hn0 hn
  have hby := bytes_new'
  generalize snap8 = sn at hfm hby
  have HNW := Lib.hid stNew_any
  have HFM := Lib.hid hfm
  have HBY := Lib.hid hby
  clear hfm hby hd
  go_enter Tryz.func12, Tryz.ntmps12
  go_wp2_with (first
    | (go_at_call 29; refine (HNW.out _).mono ?_; rintro e w1 ⟨rfl, hb1⟩; have hs1 := hb1.size)
    | (go_at_call 31; refine (HBY.out _).mono ?_; rintro e w2 ⟨rfl, hb2⟩; have hbw2 : Below w.heap.size w w2 := Below.trans (by (repeat (first | exact Below.refl _ _ | assumption | refine Below.drew ?_ | refine below_drewN ?_ _ | refine Below.alloc ?_ (by first | omega | (simp; done) | (simp; omega) | (simp at *; omega)) _ | refine Below.setCell ?_ (by first | omega | (simp; done) | (simp; omega)) _ | refine Below.trans ?_ (Below.mono (by assumption) (by first | omega | (simp; done) | (simp; omega) | (simp at *; omega)))))) (Below.mono hb2 (by simp; omega)))
    | (go_at_call 30; refine (HFM.out _ hbw2).mono ?_; rintro e w3 ⟨rfl, hb3⟩)
    | fail)
  go_ret2
  exact ⟨rfl, hbw2.trans (hb3.mono hbw2.size)⟩
set_option maxHeartbeats 3200000 in
theorem begin_ok (d s t N : Nat) (w0 w : World) (hd : DiskZ N d s t 100 w) (hb0 : Below N w0 w) (hNw : N ≤ w.heap.size) :
    Calls Tryz.prog 12 #[.pointer (some ⟨d, 0, none⟩)] w fun e w' => (∃ S L v3, e = .returned (.tuple #[.pointer (some ⟨S, 0, none⟩), .int .i64 0]) ∧ w'.heap[S]? = some (.cells #[.pointer (some ⟨L, 0, none⟩), .slice none 0 0, .slice none 0 0, .slice none 0 0, .slice none 0 0, .slice none 0 0, .slice none 0 0, .int .u64 1, .int .i64 0] 57 (0, 0)) ∧ w'.heap[L]? = some (.cells #[.pointer (some ⟨d, 0, none⟩), .int .i64 0, .int .u64 1, v3, .bool false] 95 (0, 0))) ∧ Below N w0 w' := by
  have hfm := fun w1 (hb : Below w.heap.size w w1) => format_ok d s t N w0 w1 (hd.below hb) (hb0.trans (hb.mono hNw)) (Nat.le_trans hNw hb.size)
  have hby := bytes_new'
  generalize snap8 = sn at hfm hby
  have HNW := Lib.hid stNew_any
  have HFM := Lib.hid hfm
  have HBY := Lib.hid hby
  clear hfm hby hd
  go_enter Tryz.func12, Tryz.ntmps12
  go_wp2_with (first
    | (go_at_call 29; refine (HNW.out _).mono ?_; rintro e w1 ⟨rfl, hb1⟩; have hs1 := hb1.size)
    | (go_at_call 31
       refine (HBY.out _).mono ?_
       rintro e w2 ⟨rfl, hb2⟩
       have hbw2 : Below w.heap.size w w2 := Below.trans (by (repeat (first | exact Below.refl _ _ | assumption | refine Below.drew ?_ | refine below_drewN ?_ _ | refine Below.alloc ?_ (by first | omega | (simp; done) | (simp; omega) | (simp at *; omega)) _ | refine Below.setCell ?_ (by first | omega | (simp; done) | (simp; omega)) _ | refine Below.trans ?_ (Below.mono (by assumption) (by first | omega | (simp; done) | (simp; omega) | (simp at *; omega)))))) (Below.mono hb2 (by simp; omega))
       have hx2 : w2.heap[w1.heap.size]? = some (.cells #[.slice none 0 0, .slice none 0 0, .slice none 0 0, .slice none 0 0, .slice none 0 0, .slice none 0 0, .int .u64 1, .int .i64 0] 42 (0, 0)) := (hb2.block _ (by simp)).trans (block_new _ _ _ _ rfl)
       have HX2 := Lib.hid hx2
       clear hx2)
    | (go_at_call 30
       refine (HFM.out _ hbw2).mono ?_
       rintro e w3 ⟨⟨L, v3, rfl, hL⟩, hb3, hk3⟩
       have hx3 := (hk3 _ _ _ HX2.out (by decide) (by decide) (by decide)).trans HX2.out
       have k0 : w3.cell? ⟨w1.heap.size, 0, none⟩ = some (.slice none 0 0) := (cell_of_block hx3 0).trans rfl
       have k1 : w3.cell? ⟨w1.heap.size, 1, none⟩ = some (.slice none 0 0) := (cell_of_block hx3 1).trans rfl
       have k2 : w3.cell? ⟨w1.heap.size, 2, none⟩ = some (.slice none 0 0) := (cell_of_block hx3 2).trans rfl
       have k3 : w3.cell? ⟨w1.heap.size, 3, none⟩ = some (.slice none 0 0) := (cell_of_block hx3 3).trans rfl
       have k4 : w3.cell? ⟨w1.heap.size, 4, none⟩ = some (.slice none 0 0) := (cell_of_block hx3 4).trans rfl
       have k5 : w3.cell? ⟨w1.heap.size, 5, none⟩ = some (.slice none 0 0) := (cell_of_block hx3 5).trans rfl
       have k6 : w3.cell? ⟨w1.heap.size, 6, none⟩ = some (.int .u64 1) := (cell_of_block hx3 6).trans rfl
       have k7 : w3.cell? ⟨w1.heap.size, 7, none⟩ = some (.int .i64 0) := (cell_of_block hx3 7).trans rfl
       have HL := Lib.hid hL
       have HB3 := Lib.hid hb3
       have hs3 := lt_of_block' hx3
       clear hx3 hL hb3 hk3)
    | fail)
  go_ret2
  exact ⟨⟨_, L, v3, rfl, block_new _ _ _ _ rfl, block_old _ HL.out (lt_of_block' HL.out)⟩, HB3.out.alloc (by omega) _⟩
set_option maxHeartbeats 3200000 in
theorem sOpen_nil (w : World) : Calls Tryz.prog 4 #[.pointer none] w fun e w' => e = .returned (.tuple #[.pointer none, .int .i64 1]) ∧ Below w.heap.size w w' := by
  have HO := Lib.hid hOpen_nil
  go_enter Tryz.func4, Tryz.ntmps4
  go_wp2_with (first
    | (go_at_call 11; refine (HO.out _).mono ?_; rintro e w1 ⟨rfl, hb1⟩; have hs1 := hb1.size)
    | fail)
  go_ret2
  exact ⟨rfl, by (repeat (first | exact Below.refl _ _ | assumption | refine Below.drew ?_ | refine below_drewN ?_ _ | refine Below.alloc ?_ (by first | omega | (simp; done) | (simp; omega) | (simp at *; omega)) _ | refine Below.setCell ?_ (by first | omega | (simp; done) | (simp; omega)) _ | refine Below.trans ?_ (Below.mono (by assumption) (by first | omega | (simp; done) | (simp; omega) | (simp at *; omega)))))⟩
set_option maxHeartbeats 3200000 in
theorem sOpen_small (B d s t n : Nat) (w : World) (hd : DiskZ B d s t n w) (hn0 : 2 ≤ n) (hn : n < 36) :
    Calls Tryz.prog 4 #[.pointer (some ⟨d, 0, none⟩)] w fun e w' => e = .returned (.tuple #[.pointer none, .int .i64 15]) ∧ Below w.heap.size w w' := by
  have ho := hOpen_zero B d s t n w hd hn0 (by omega)
  have hbg := fun w1 (hb : Below w.heap.size w w1) => begin_small B d s t n w1 (hd.below hb) hn0 hn
  have HO := Lib.hid ho
  have HBG := Lib.hid hbg
  clear ho hbg hd
  go_enter Tryz.func4, Tryz.ntmps4
  go_wp2_with (first
    | (go_at_call 11; refine HO.out.mono ?_; rintro e w1 ⟨rfl, hb1⟩; have hs1 := hb1.size; have hbw1 : Below w.heap.size w w1 := hb1)
    | (go_at_call 12; refine (HBG.out _ (by (repeat (first | exact Below.refl _ _ | assumption | refine Below.drew ?_ | refine below_drewN ?_ _ | refine Below.alloc ?_ (by first | omega | (simp; done) | (simp; omega) | (simp at *; omega)) _ | refine Below.setCell ?_ (by first | omega | (simp; done) | (simp; omega)) _ | refine Below.trans ?_ (Below.mono (by assumption) (by first | omega | (simp; done) | (simp; omega) | (simp at *; omega))))))).mono ?_; rintro e w2 ⟨rfl, hb2⟩)
    | fail)
  go_ret2
  exact ⟨rfl, (hbw1.alloc hs1 _).trans (hb2.mono (by simp; omega))⟩
set_option maxHeartbeats 3200000 in
theorem sOpen_ok (d s t N : Nat) (w0 w : World) (hd : DiskZ N d s t 100 w) (hb0 : Below N w0 w) (hNw : N ≤ w.heap.size) :
    Calls Tryz.prog 4 #[.pointer (some ⟨d, 0, none⟩)] w fun e w' => (∃ S L v3, e = .returned (.tuple #[.pointer (some ⟨S, 0, none⟩), .int .i64 0]) ∧ w'.heap[S]? = some (.cells #[.pointer (some ⟨L, 0, none⟩), .slice none 0 0, .slice none 0 0, .slice none 0 0, .slice none 0 0, .slice none 0 0, .slice none 0 0, .int .u64 1, .int .i64 0] 57 (0, 0)) ∧ w'.heap[L]? = some (.cells #[.pointer (some ⟨d, 0, none⟩), .int .i64 0, .int .u64 1, v3, .bool false] 95 (0, 0))) ∧ Below N w0 w' := by
  have ho := hOpen_zero N d s t 100 w hd (by decide) (by decide)
  have hbg := fun w1 (hb : Below w.heap.size w w1) => begin_ok d s t N w0 w1 (hd.below hb) (hb0.trans (hb.mono hNw)) (Nat.le_trans hNw hb.size)
  have HO := Lib.hid ho
  have HBG := Lib.hid hbg
  clear ho hbg hd
  go_enter Tryz.func4, Tryz.ntmps4
  go_wp2_with (first
    | (go_at_call 11; refine HO.out.mono ?_; rintro e w1 ⟨rfl, hb1⟩; have hs1 := hb1.size; have hbw1 : Below w.heap.size w w1 := hb1)
    | (go_at_call 12; refine (HBG.out _ (by (repeat (first | exact Below.refl _ _ | assumption | refine Below.drew ?_ | refine below_drewN ?_ _ | refine Below.alloc ?_ (by first | omega | (simp; done) | (simp; omega) | (simp at *; omega)) _ | refine Below.setCell ?_ (by first | omega | (simp; done) | (simp; omega)) _ | refine Below.trans ?_ (Below.mono (by assumption) (by first | omega | (simp; done) | (simp; omega) | (simp at *; omega))))))).mono ?_; rintro e w2 ⟨⟨S, L, v3, rfl, h1, h2⟩, hb2⟩)
    | fail)
  go_ret2
  exact ⟨⟨S, L, v3, rfl, h1, h2⟩, hb2⟩
end Go.Proofs.YtamoenjempnlhaaGreatDoor
