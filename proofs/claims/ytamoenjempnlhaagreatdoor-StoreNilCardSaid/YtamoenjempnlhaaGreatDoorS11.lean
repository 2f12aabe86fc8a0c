import Derived.Test.YtamoenjempnlhaaGreatDoorS10
namespace Go.Proofs.YtamoenjempnlhaaGreatDoor
open Go.RowKit
set_option maxRecDepth 100000
theorem Kept.refl (b : Nat) (w : World) : Kept b w w := fun _ _ _ _ _ _ _ => rfl
theorem Kept.trans {b : Nat} {w w1 w2 : World} (h : Kept b w w1) (h2 : Kept b w1 w2) : Kept b w w2 := fun k c T f hk hT hb => (h2 k c T f ((h k c T f hk hT hb).trans hk) hT hb).trans (h k c T f hk hT hb)
theorem Kept.alloc {b : Nat} {w w1 : World} (h : Kept b w w1) (o : Obj) : Kept b w (w1.alloc o) := fun k c T f hk hT hb => (Below.heap_alloc w1 o k (lt_of_block' ((h k c T f hk hT hb).trans hk))).trans (h k c T f hk hT hb)
theorem isW_lt {B b : Nat} {bs : List Value} {w : World} (h : IsW B b bs w) : b < w.heap.size := by
  rcases h with ⟨_, v, hb, _⟩ | ⟨_, v, hb, _⟩ <;> exact lt_of_block' hb
theorem wAt_alloc {B b : Nat} {p : Value} {bs : List Value} {w : World} (h : Lib.BuilderAt 110 5 B b p bs w) (o : Obj) : Lib.BuilderAt 110 5 B b p bs (w.alloc o) := by
  obtain ⟨hB, v, hb, hown, hne⟩ := h
  exact ⟨hB, v, block_old o hb (lt_of_block' hb), hown.alloc o, hne⟩
theorem isW_alloc {B b : Nat} {bs : List Value} {w : World} (h : IsW B b bs w) (o : Obj) : IsW B b bs (w.alloc o) := h.imp (wAt_alloc · o) (wAt_alloc · o)
/-- What a writer of a pack.Writer leaves. -/
structure Wrote (B b : Nat) (bs : List Value) (w w' : World) : Prop where
  isw : IsW B b bs w'
  below : Below B w w'
  kept : Kept b w w'
set_option maxHeartbeats 1600000 in
theorem num_any (B b n : Nat) (bs : List Value) (w : World) (h : IsW B b bs w) (hn : n < 128) (hlen : bs.length + 1 ≤ 140737488355328) (hBw : B ≤ w.heap.size) :
    Calls Tryz.prog 89 #[.pointer (some ⟨b, 0, none⟩), .int .u64 n] w fun e w' => e = .returned (.tuple #[]) ∧ Wrote B b (bs ++ [.int .u8 n]) w w' := by
  have hwb := fun w1 (h : IsW B b bs w1) (hb : B ≤ w1.heap.size) => writeByteW_any' B b bs n w1 h hlen hb
  have d1 : decide ((128 : Int) ≤ n) = false := by simp; omega
  have hc : IntKind.u8.wrap (n : Int) = n := by rw [IntKind.wrap_u8]; omega
  have HWB := Lib.hid hwb
  have HH := Lib.hid h
  clear hwb h
  go_enter Tryz.func89, Tryz.ntmps89
  go_wp2_with fail
  go_loopg [1] 0 (fun g v wr => v = .int .u64 n ∧ wr = w)
  case atStart => exact ⟨rfl, rfl⟩
  case round =>
    obtain ⟨rfl, rfl⟩ := hrel
    go_wp2_with (first
      | (go_at_call 137; refine (HWB.out _ HH.out hBw).mono ?_; rintro e w1 ⟨rfl, h1, h2, h3⟩)
      | fail)
    go_end0
    exact ⟨rfl, Or.inr h1, h2, h3⟩
set_option maxHeartbeats 1600000 in
theorem num1_any (B b n q : Nat) (bs : List Value) (w : World) (h : IsW B b bs w) (hn : n < 128) (hlen : bs.length + 1 ≤ 140737488355328) (hBw : B ≤ w.heap.size)
    (hq : w.heap[q]? = some (.cells #[.int .u64 n] 40 (0, 0))) (hqb : q ≠ b) :
    Calls Tryz.prog 35 #[.pointer (some ⟨b, 0, none⟩), .slice (some ⟨q, 0, none⟩) 1 1] w fun e w' => e = .returned (.pointer (some ⟨b, 0, none⟩)) ∧ Wrote B b (bs ++ [.int .u8 n]) w w' := by
  have hnum := fun w1 (h : IsW B b bs w1) (hb : B ≤ w1.heap.size) => num_any B b n bs w1 h hn hlen hb
  have HN := Lib.hid hnum
  have HH := Lib.hid h
  have HQ := Lib.hid hq
  clear hnum h hq
  go_enter Tryz.func35, Tryz.ntmps35
  go_wp2_with fail
  go_loopg [11] 1 (fun g v wr => (g = 1 ∧ v = .int .i64 0 ∧ wr = w) ∨ (g = 0 ∧ v = .int .i64 1 ∧ Wrote B b (bs ++ [.int .u8 n]) w wr))
  case atStart => exact Or.inl ⟨rfl, rfl, rfl⟩
  case round =>
    rcases hrel with ⟨rfl, rfl, rfl⟩ | ⟨rfl, rfl, hw⟩
    · have c0 : wr.cell? ⟨q, 0, none⟩ = some (.int .u64 n) := (cell_of_block HQ.out 0).trans rfl
      go_wp2_with (first
        | (go_at_call 89; refine (HN.out _ HH.out hBw).mono ?_; rintro e w1 ⟨rfl, h1⟩)
        | fail)
      go_roundg 0
      case measure => omega
      case rel => exact Or.inr ⟨rfl, rfl, h1⟩
    · go_wp2
      go_ret
      exact ⟨rfl, hw⟩
/-- Two numbers are written. -/
theorem two_at (x0 x1 : Int) (j : Nat) (hj : j < 2) : (#[.int .i64 x0, .int .i64 x1] : Array Value)[j]? = some (.int .i64 ([x0, x1].getD j 0)) := by
  match j, hj with
  | 0, _ => rfl
  | 1, _ => rfl
set_option maxHeartbeats 1600000 in
theorem nums2_any (B b n0 n1 q : Nat) (bs : List Value) (w : World) (h : IsW B b bs w) (hn0 : n0 < 128) (hn1 : n1 < 128) (hlen : bs.length + 2 ≤ 140737488355328) (hBw : B ≤ w.heap.size)
    (hq : w.heap[q]? = some (.cells #[.int .i64 n0, .int .i64 n1] 2 (0, 0))) (hqb : q ≠ b) :
    Calls Tryz.prog 55 #[.pointer (some ⟨b, 0, none⟩), .slice (some ⟨q, 0, none⟩) 2 2] w fun e w' => e = .returned (.tuple #[]) ∧ Wrote B b (bs ++ [.int .u8 n0] ++ [.int .u8 n1]) w w' := by
  have hm0 := fun q' w1 (h : IsW B b bs w1) (hb : B ≤ w1.heap.size) hq hqb => num1_any B b n0 q' bs w1 h hn0 (by omega) hb hq hqb
  have hm1 := fun q' w1 (h : IsW B b (bs ++ [.int .u8 n0]) w1) (hb : B ≤ w1.heap.size) hq hqb => num1_any B b n1 q' (bs ++ [.int .u8 n0]) w1 h hn1 (by simp; omega) hb hq hqb
  have HM0 := Lib.hid hm0
  have HM1 := Lib.hid hm1
  have HH := Lib.hid h
  have HQ := Lib.hid hq
  clear hm0 hm1 h hq
  go_enter Tryz.func55, Tryz.ntmps55
  go_wp2_with fail
  go_loopg [8] 2 (fun g v wr => (g = 2 ∧ v = .int .i64 0 ∧ wr = w) ∨ (g = 1 ∧ v = .int .i64 1 ∧ Wrote B b (bs ++ [.int .u8 n0]) w wr) ∨ (g = 0 ∧ v = .int .i64 2 ∧ Wrote B b (bs ++ [.int .u8 n0] ++ [.int .u8 n1]) w wr))
  case atStart => exact Or.inl ⟨rfl, rfl, rfl⟩
  case round =>
    rcases hrel with ⟨rfl, rfl, rfl⟩ | ⟨rfl, rfl, hw⟩ | ⟨rfl, rfl, hw⟩
    · have c0 : wr.cell? ⟨q, 0, none⟩ = some (.int .i64 n0) := (cell_of_block HQ.out 0).trans rfl
      have hbl := isW_lt HH.out
      go_wp2_with (first
        | (go_at_call 35; refine (HM0.out _ _ (isW_alloc HH.out _) (by simp; omega) (block_new _ _ _ _ rfl) (by omega)).mono ?_; rintro e w1 ⟨rfl, h1⟩)
        | fail)
      go_roundg 1
      case measure => omega
      case rel => exact Or.inr (Or.inl ⟨rfl, rfl, h1.isw, ((Below.refl _ _).alloc hBw _).trans h1.below, ((Kept.refl _ _).alloc _).trans h1.kept⟩)
    · have hqk := (hw.kept q _ _ _ HQ.out (by decide) hqb).trans HQ.out
      have c1 : wr.cell? ⟨q, 1, none⟩ = some (.int .i64 n1) := (cell_of_block hqk 1).trans rfl
      have hbl := isW_lt hw.isw
      have hs := hw.below.size
      have HW := Lib.hid hw
      clear hqk hw
      go_wp2_with (first
        | (go_at_call 35; refine (HM1.out _ _ (isW_alloc HW.out.isw _) (by simp; omega) (block_new _ _ _ _ rfl) (by omega)).mono ?_; rintro e w1 ⟨rfl, h1⟩)
        | fail)
      go_roundg 0
      case measure => omega
      case rel => exact Or.inr (Or.inr ⟨rfl, rfl, h1.isw, (HW.out.below.alloc (by omega) _).trans h1.below, (HW.out.kept.alloc _).trans h1.kept⟩)
    · go_wp2
      go_end0
      exact ⟨rfl, hw⟩
end Go.Proofs.YtamoenjempnlhaaGreatDoor
