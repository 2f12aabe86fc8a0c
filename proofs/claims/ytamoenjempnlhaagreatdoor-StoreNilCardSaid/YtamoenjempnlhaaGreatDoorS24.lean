import Derived.Test.YtamoenjempnlhaaGreatDoorS23
namespace Go.Proofs.YtamoenjempnlhaaGreatDoor
open Go.RowKit
set_option maxRecDepth 100000
theorem KeptD.set {w W : World} (h : KeptD w W) (L j : Nat) (v : Value) (hL : w.heap.size ≤ L) : KeptD w (W.setCell ⟨L, j, none⟩ v) := fun k c T hk h1 h2 h3 => (setCell_far rfl (by have := lt_of_block' hk; omega) _ _).trans (h k c T hk h1 h2 h3)
theorem head10_size : head10.size = 10 := rfl
set_option maxHeartbeats 3200000 in
theorem format_small (B d s t n : Nat) (w : World) (hd : DiskZ B d s t n w) (hn0 : 2 ≤ n) (hn : n < 36) :
    Calls Tryz.prog 30 #[.pointer (some ⟨d, 0, none⟩), .string snap8] w fun e w' => e = .returned (.tuple #[.pointer none, .int .i64 15]) ∧ Below w.heap.size w w' := by
  have hnw := fun w1 (hb : Below w.heap.size w w1) => newest_zero B d s t n w1 (hd.below hb) hn0 (by omega)
  have hsz := fun w1 (hb : Below w.heap.size w w1) => size_any d s n w1 (hd.below hb).cells.1 (by omega)
  have hhd := fun w => head_any w
  have hft := fun w => fits_any head10 (n / 2) w (by decide) (by decide) (by omega)
  rw [show decide (head10.size + 8 ≤ n / 2) = false by rw [head10_size]; simp; omega] at hft
  generalize snap8 = sn at hhd ⊢
  generalize head10 = x at hhd hft
  obtain ⟨k, hk⟩ : ∃ k, k = n / 2 := ⟨_, rfl⟩
  rw [← hk] at hsz hft
  have HNW := Lib.hid hnw
  have HSZ := Lib.hid hsz
  have HHD := Lib.hid hhd
  have HFT := Lib.hid hft
  clear hnw hsz hhd hft hk hd
  go_enter Tryz.func30, Tryz.ntmps30
  go_wp2_with (first
    | (go_at_call 25; refine (HNW.out _ (by (repeat (first | exact Below.refl _ _ | assumption | refine Below.drew ?_ | refine below_drewN ?_ _ | refine Below.alloc ?_ (by first | omega | (simp; done) | (simp; omega) | (simp at *; omega)) _ | refine Below.setCell ?_ (by first | omega | (simp; done) | (simp; omega)) _ | refine Below.trans ?_ (Below.mono (by assumption) (by first | omega | (simp; done) | (simp; omega) | (simp at *; omega))))))).mono ?_; rintro e w1 ⟨rfl, hb1⟩; have hbw1 : Below w.heap.size w w1 := hb1; have hs1 := hb1.size)
    | (go_at_call 50; refine (HHD.out _).mono ?_; rintro e w2 ⟨rfl, hb2⟩; have hbw2 : Below w.heap.size w w2 := Below.trans (by (repeat (first | exact Below.refl _ _ | assumption | refine Below.drew ?_ | refine below_drewN ?_ _ | refine Below.alloc ?_ (by first | omega | (simp; done) | (simp; omega) | (simp at *; omega)) _ | refine Below.setCell ?_ (by first | omega | (simp; done) | (simp; omega)) _ | refine Below.trans ?_ (Below.mono (by assumption) (by first | omega | (simp; done) | (simp; omega) | (simp at *; omega)))))) (Below.mono hb2 (by have := hbw1.size; simp; omega)))
    | (go_at_call 28; refine (HSZ.out _ hbw2).mono ?_; rintro e w3 ⟨rfl, rfl⟩)
    | (go_at_call 51; refine (HFT.out _).mono ?_; rintro e w4 ⟨rfl, rfl⟩)
    | fail)
  go_ret2
  exact ⟨rfl, hbw2⟩
set_option maxHeartbeats 6400000 in
/-- Format of a new disk of 100 bytes: a log, in a block of its own. -/
theorem format_ok (d s t : Nat) (N : Nat) (w0 w : World) (hd : DiskZ N d s t 100 w) (hb0 : Below N w0 w) (hNw : N ≤ w.heap.size) :
    Calls Tryz.prog 30 #[.pointer (some ⟨d, 0, none⟩), .string snap8] w fun e w' => (∃ L v3, e = .returned (.tuple #[.pointer (some ⟨L, 0, none⟩), .int .i64 0]) ∧ w'.heap[L]? = some (.cells #[.pointer (some ⟨d, 0, none⟩), .int .i64 0, .int .u64 1, v3, .bool false] 95 (0, 0))) ∧ Below N w0 w' ∧ KeptD w w' := by
  have hnw := fun w1 (hb : Below w.heap.size w w1) => newest_zero N d s t 100 w1 (hd.below hb) (by decide) (by decide)
  have hsz := fun w1 (hb : Below w.heap.size w w1) => size_any d s 100 w1 (hd.below hb).cells.1 (by decide)
  have hhd := fun w => head_any w
  have hft := fun w => fits_any head10 50 w (by decide) (by decide) (by decide)
  rw [show decide (head10.size + 8 ≤ 50) = true by decide] at hft
  have hx10 : head10.size = 10 := rfl
  generalize snap8 = sn at hhd ⊢
  generalize head10 = x at hhd hft hx10
  have HNW := Lib.hid hnw
  have HSZ := Lib.hid hsz
  have HHD := Lib.hid hhd
  have HFT := Lib.hid hft
  have HDZ := Lib.hid hd
  have HB0 := Lib.hid hb0
  clear hnw hsz hhd hft hd hb0
  go_enter Tryz.func30, Tryz.ntmps30
  go_wp2_with (first
    | (go_at_call 25; refine (HNW.out _ (by (repeat (first | exact Below.refl _ _ | assumption | refine Below.drew ?_ | refine below_drewN ?_ _ | refine Below.alloc ?_ (by first | omega | (simp; done) | (simp; omega) | (simp at *; omega)) _ | refine Below.setCell ?_ (by first | omega | (simp; done) | (simp; omega)) _ | refine Below.trans ?_ (Below.mono (by assumption) (by first | omega | (simp; done) | (simp; omega) | (simp at *; omega))))))).mono ?_; rintro e w1 ⟨rfl, hb1⟩; have hbw1 : Below w.heap.size w w1 := hb1; have hs1 := hb1.size)
    | (go_at_call 50
       refine (HHD.out _).mono ?_
       rintro e w2 ⟨rfl, hb2⟩
       have hbw2 : Below w.heap.size w w2 := Below.trans (by (repeat (first | exact Below.refl _ _ | assumption | refine Below.drew ?_ | refine below_drewN ?_ _ | refine Below.alloc ?_ (by first | omega | (simp; done) | (simp; omega) | (simp at *; omega)) _ | refine Below.setCell ?_ (by first | omega | (simp; done) | (simp; omega)) _ | refine Below.trans ?_ (Below.mono (by assumption) (by first | omega | (simp; done) | (simp; omega) | (simp at *; omega)))))) (Below.mono hb2 (by have := hbw1.size; simp; omega))
       have hL : w2.heap[w1.heap.size + 1]? = some (.cells #[.pointer (some ⟨d, 0, none⟩), .int .i64 0, .int .u64 1, .int .i64 0, .bool false] 95 (0, 0)) := (hb2.block _ (by simp)).trans (block_new _ _ _ _ (by simp))
       have l2 : w2.cell? ⟨w1.heap.size + 1, 2, none⟩ = some (.int .u64 1) := (cell_of_block hL 2).trans rfl
       have HL := Lib.hid hL
       clear hL)
    | (go_at_call 28; refine (HSZ.out _ hbw2).mono ?_; rintro e w3 ⟨rfl, hw3⟩; obtain rfl := hw3)
    | (go_at_call 51; refine (HFT.out _).mono ?_; rintro e w4 ⟨rfl, hw4⟩; obtain rfl := hw4)
    | fail)
  have hLl := lt_of_block' HL.out
  clear hb2
  refine (wipe_any d 0 50 w4).mono ?_
  rintro e w5 ⟨rfl, hc1, hb5⟩
  have hbw5 := hbw2.trans (hb5.mono hbw2.size)
  have hL5 := (hb5.block _ hLl).trans HL.out
  have HC1 := Lib.hid hc1
  have HL5 := Lib.hid hL5
  clear hc1 hL5
  go_wp2_with fail
  refine (put_any d 0 x w5).mono ?_
  rintro e w6 ⟨rfl, hc2, hb6⟩
  have hbw6 := hbw5.trans (hb6.mono hbw5.size)
  have hL6 := (hb6.block _ (lt_of_block' HL5.out)).trans HL5.out
  have HC2 := Lib.hid hc2
  have HL6 := Lib.hid hL6
  clear hc2 hL6
  go_wp2_with fail
  refine (wipe_any d 50 100 w6).mono ?_
  rintro e w7 ⟨rfl, hc3, hb7⟩
  have hbw7 := hbw6.trans (hb7.mono hbw6.size)
  have hL7 := (hb7.block _ (lt_of_block' HL6.out)).trans HL6.out
  have HC3 := Lib.hid hc3
  have HL7 := Lib.hid hL7
  clear hc3 hL7
  go_wp2_with fail
  generalize hW8 : World.alloc _ _ = W8
  have hb8 : Below w7.heap.size w7 W8 := by rw [← hW8]; (repeat (first | exact Below.refl _ _ | assumption | refine Below.drew ?_ | refine below_drewN ?_ _ | refine Below.alloc ?_ (by first | omega | (simp; done) | (simp; omega) | (simp at *; omega)) _ | refine Below.setCell ?_ (by first | omega | (simp; done) | (simp; omega)) _ | refine Below.trans ?_ (Below.mono (by assumption) (by first | omega | (simp; done) | (simp; omega) | (simp at *; omega)))))
  have hz8 : W8.heap[w7.heap.size]? = some (.cells #[.func (.func 44) #[] #[.pointer (some ⟨w4.heap.size, 0, none⟩), .pointer (some ⟨w4.heap.size + 1, 0, none⟩), .pointer (some ⟨w4.heap.size + 2, 0, none⟩)], .func (.func 116) #[] #[.pointer (some ⟨w5.heap.size, 0, none⟩), .pointer (some ⟨w5.heap.size + 1, 0, none⟩), .pointer (some ⟨w5.heap.size + 2, 0, none⟩)], .func (.func 44) #[] #[.pointer (some ⟨w6.heap.size, 0, none⟩), .pointer (some ⟨w6.heap.size + 1, 0, none⟩), .pointer (some ⟨w6.heap.size + 2, 0, none⟩)]] 91 (0, 0)) := by rw [← hW8]; exact block_new _ _ _ _ rfl
  have hbw8 := hbw7.trans (hb8.mono hbw7.size)
  have hk78 := KeptD.of_below hb8
  have hk67 := KeptD.of_below hb7
  have hk56 := KeptD.of_below hb6
  have hda : DiskAt N d s t 100 (.slice none 0 0) 0 [] w0 W8 := (HDZ.out.below hbw8).at (HB0.out.trans (hbw8.mono hNw))
  have hL8 := (hb8.block _ (lt_of_block' HL7.out)).trans HL7.out
  refine (steps3_any N d s t w4.heap.size w5.heap.size w6.heap.size w7.heap.size x _ w0 W8 hda hx10 (HC1.out.kept (hk56.trans (hk67.trans hk78)) (by decide) (by decide) (by decide)) (HC2.out.kept (hk67.trans hk78) (by decide) (by decide) (by decide)) (HC3.out.kept hk78 (by decide) (by decide) (by decide)) hz8).mono ?_
  rintro e w9 ⟨rfl, ⟨wt', hd9⟩, hk9⟩
  have hL9 := (hk9 _ _ _ hL8 (by decide) (by decide) (by decide)).trans hL8
  have m3 : w9.cell? ⟨w1.heap.size + 1, 3, none⟩ = some (.int .i64 0) := (cell_of_block hL9 3).trans rfl
  have mf := free_of_block hL9
  have HK9 := Lib.hid ((KeptD.of_below hbw8).trans hk9)
  have HB9 := Lib.hid hd9.below
  have HL9 := Lib.hid hL9
  have hfs := fun w => fSize_any 10 w (by decide) (by decide)
  have HFS := Lib.hid hfs
  clear hW8 hz8 hk78 hk67 hk56 hda hL8 hL9 hd9 hk9 hfs hb8 hb7 hb6 hb5
  go_wp2_with (first
    | (go_at_call 53; refine (HFS.out _).mono ?_; rintro e w10 ⟨rfl, hw10⟩; obtain rfl := hw10)
    | fail)
  go_ret2
  refine ⟨⟨w1.heap.size + 1, _, rfl, setCell_block HL9.out 3 _⟩, HB9.out.setCell (p := ⟨w1.heap.size + 1, 3, none⟩) (by show N ≤ w1.heap.size + 1; omega) _, HK9.out.set _ _ _ (by omega)⟩
end Go.Proofs.YtamoenjempnlhaaGreatDoor
