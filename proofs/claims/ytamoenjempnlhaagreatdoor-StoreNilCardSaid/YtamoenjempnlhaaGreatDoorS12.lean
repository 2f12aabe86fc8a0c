import Derived.Test.YtamoenjempnlhaaGreatDoorS11
namespace Go.Proofs.YtamoenjempnlhaaGreatDoor
open Go.RowKit
set_option maxRecDepth 100000
set_option maxHeartbeats 1600000 in
theorem rows_Person (B b : Nat) (f : Value) (bs : List Value) (w : World) (h : IsW B b bs w) (hlen : bs.length + 1 ≤ 140737488355328) (hBw : B ≤ w.heap.size) :
    Calls Tryz.prog 56 #[.pointer (some ⟨b, 0, none⟩), .slice none 0 0, f] w fun e w' => e = .returned (.tuple #[]) ∧ Wrote B b (bs ++ [.int .u8 0]) w w' := by
  have hm := fun q' w1 (h : IsW B b bs w1) (hb : B ≤ w1.heap.size) hq hqb => num1_any B b 0 q' bs w1 h (by decide) hlen hb hq hqb
  have HM := Lib.hid hm
  have HH := Lib.hid h
  have hbl := isW_lt h
  clear hm h
  go_enter Tryz.func56, Tryz.ntmps56
  go_wp2_with (first
    | (go_at_call 35; refine (HM.out _ _ (isW_alloc HH.out _) (by simp; omega) (block_new _ _ _ _ rfl) (by omega)).mono ?_; rintro e w1 ⟨rfl, h1⟩)
    | fail)
  go_loopg [16] 0 (fun g v wr => v = .int .i64 0 ∧ wr = w1)
  case atStart => exact ⟨rfl, rfl⟩
  case round =>
    obtain ⟨rfl, rfl⟩ := hrel
    go_wp2
    go_end0
    exact ⟨rfl, h1.isw, ((Below.refl _ _).alloc hBw _).trans h1.below, ((Kept.refl _ _).alloc _).trans h1.kept⟩
set_option maxHeartbeats 1600000 in
theorem rows_Session (B b : Nat) (f : Value) (bs : List Value) (w : World) (h : IsW B b bs w) (hlen : bs.length + 1 ≤ 140737488355328) (hBw : B ≤ w.heap.size) :
    Calls Tryz.prog 62 #[.pointer (some ⟨b, 0, none⟩), .slice none 0 0, f] w fun e w' => e = .returned (.tuple #[]) ∧ Wrote B b (bs ++ [.int .u8 0]) w w' := by
  have hm := fun q' w1 (h : IsW B b bs w1) (hb : B ≤ w1.heap.size) hq hqb => num1_any B b 0 q' bs w1 h (by decide) hlen hb hq hqb
  have HM := Lib.hid hm
  have HH := Lib.hid h
  have hbl := isW_lt h
  clear hm h
  go_enter Tryz.func62, Tryz.ntmps62
  go_wp2_with (first
    | (go_at_call 35; refine (HM.out _ _ (isW_alloc HH.out _) (by simp; omega) (block_new _ _ _ _ rfl) (by omega)).mono ?_; rintro e w1 ⟨rfl, h1⟩)
    | fail)
  go_loopg [16] 0 (fun g v wr => v = .int .i64 0 ∧ wr = w1)
  case atStart => exact ⟨rfl, rfl⟩
  case round =>
    obtain ⟨rfl, rfl⟩ := hrel
    go_wp2
    go_end0
    exact ⟨rfl, h1.isw, ((Below.refl _ _).alloc hBw _).trans h1.below, ((Kept.refl _ _).alloc _).trans h1.kept⟩
set_option maxHeartbeats 1600000 in
theorem rows_Secret (B b : Nat) (f : Value) (bs : List Value) (w : World) (h : IsW B b bs w) (hlen : bs.length + 1 ≤ 140737488355328) (hBw : B ≤ w.heap.size) :
    Calls Tryz.prog 64 #[.pointer (some ⟨b, 0, none⟩), .slice none 0 0, f] w fun e w' => e = .returned (.tuple #[]) ∧ Wrote B b (bs ++ [.int .u8 0]) w w' := by
  have hm := fun q' w1 (h : IsW B b bs w1) (hb : B ≤ w1.heap.size) hq hqb => num1_any B b 0 q' bs w1 h (by decide) hlen hb hq hqb
  have HM := Lib.hid hm
  have HH := Lib.hid h
  have hbl := isW_lt h
  clear hm h
  go_enter Tryz.func64, Tryz.ntmps64
  go_wp2_with (first
    | (go_at_call 35; refine (HM.out _ _ (isW_alloc HH.out _) (by simp; omega) (block_new _ _ _ _ rfl) (by omega)).mono ?_; rintro e w1 ⟨rfl, h1⟩)
    | fail)
  go_loopg [16] 0 (fun g v wr => v = .int .i64 0 ∧ wr = w1)
  case atStart => exact ⟨rfl, rfl⟩
  case round =>
    obtain ⟨rfl, rfl⟩ := hrel
    go_wp2
    go_end0
    exact ⟨rfl, h1.isw, ((Below.refl _ _).alloc hBw _).trans h1.below, ((Kept.refl _ _).alloc _).trans h1.kept⟩
set_option maxHeartbeats 1600000 in
theorem rows_Message (B b : Nat) (f : Value) (bs : List Value) (w : World) (h : IsW B b bs w) (hlen : bs.length + 1 ≤ 140737488355328) (hBw : B ≤ w.heap.size) :
    Calls Tryz.prog 66 #[.pointer (some ⟨b, 0, none⟩), .slice none 0 0, f] w fun e w' => e = .returned (.tuple #[]) ∧ Wrote B b (bs ++ [.int .u8 0]) w w' := by
  have hm := fun q' w1 (h : IsW B b bs w1) (hb : B ≤ w1.heap.size) hq hqb => num1_any B b 0 q' bs w1 h (by decide) hlen hb hq hqb
  have HM := Lib.hid hm
  have HH := Lib.hid h
  have hbl := isW_lt h
  clear hm h
  go_enter Tryz.func66, Tryz.ntmps66
  go_wp2_with (first
    | (go_at_call 35; refine (HM.out _ _ (isW_alloc HH.out _) (by simp; omega) (block_new _ _ _ _ rfl) (by omega)).mono ?_; rintro e w1 ⟨rfl, h1⟩)
    | fail)
  go_loopg [16] 0 (fun g v wr => v = .int .i64 0 ∧ wr = w1)
  case atStart => exact ⟨rfl, rfl⟩
  case round =>
    obtain ⟨rfl, rfl⟩ := hrel
    go_wp2
    go_end0
    exact ⟨rfl, h1.isw, ((Below.refl _ _).alloc hBw _).trans h1.below, ((Kept.refl _ _).alloc _).trans h1.kept⟩
set_option maxHeartbeats 1600000 in
theorem rows_Bucket (B b : Nat) (f : Value) (bs : List Value) (w : World) (h : IsW B b bs w) (hlen : bs.length + 1 ≤ 140737488355328) (hBw : B ≤ w.heap.size) :
    Calls Tryz.prog 68 #[.pointer (some ⟨b, 0, none⟩), .slice none 0 0, f] w fun e w' => e = .returned (.tuple #[]) ∧ Wrote B b (bs ++ [.int .u8 0]) w w' := by
  have hm := fun q' w1 (h : IsW B b bs w1) (hb : B ≤ w1.heap.size) hq hqb => num1_any B b 0 q' bs w1 h (by decide) hlen hb hq hqb
  have HM := Lib.hid hm
  have HH := Lib.hid h
  have hbl := isW_lt h
  clear hm h
  go_enter Tryz.func68, Tryz.ntmps68
  go_wp2_with (first
    | (go_at_call 35; refine (HM.out _ _ (isW_alloc HH.out _) (by simp; omega) (block_new _ _ _ _ rfl) (by omega)).mono ?_; rintro e w1 ⟨rfl, h1⟩)
    | fail)
  go_loopg [16] 0 (fun g v wr => v = .int .i64 0 ∧ wr = w1)
  case atStart => exact ⟨rfl, rfl⟩
  case round =>
    obtain ⟨rfl, rfl⟩ := hrel
    go_wp2
    go_end0
    exact ⟨rfl, h1.isw, ((Below.refl _ _).alloc hBw _).trans h1.below, ((Kept.refl _ _).alloc _).trans h1.kept⟩
set_option maxHeartbeats 1600000 in
theorem rows_Case (B b : Nat) (f : Value) (bs : List Value) (w : World) (h : IsW B b bs w) (hlen : bs.length + 1 ≤ 140737488355328) (hBw : B ≤ w.heap.size) :
    Calls Tryz.prog 70 #[.pointer (some ⟨b, 0, none⟩), .slice none 0 0, f] w fun e w' => e = .returned (.tuple #[]) ∧ Wrote B b (bs ++ [.int .u8 0]) w w' := by
  have hm := fun q' w1 (h : IsW B b bs w1) (hb : B ≤ w1.heap.size) hq hqb => num1_any B b 0 q' bs w1 h (by decide) hlen hb hq hqb
  have HM := Lib.hid hm
  have HH := Lib.hid h
  have hbl := isW_lt h
  clear hm h
  go_enter Tryz.func70, Tryz.ntmps70
  go_wp2_with (first
    | (go_at_call 35; refine (HM.out _ _ (isW_alloc HH.out _) (by simp; omega) (block_new _ _ _ _ rfl) (by omega)).mono ?_; rintro e w1 ⟨rfl, h1⟩)
    | fail)
  go_loopg [16] 0 (fun g v wr => v = .int .i64 0 ∧ wr = w1)
  case atStart => exact ⟨rfl, rfl⟩
  case round =>
    obtain ⟨rfl, rfl⟩ := hrel
    go_wp2
    go_end0
    exact ⟨rfl, h1.isw, ((Below.refl _ _).alloc hBw _).trans h1.below, ((Kept.refl _ _).alloc _).trans h1.kept⟩
end Go.Proofs.YtamoenjempnlhaaGreatDoor
