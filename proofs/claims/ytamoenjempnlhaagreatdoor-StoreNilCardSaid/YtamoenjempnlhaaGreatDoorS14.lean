import Derived.Test.YtamoenjempnlhaaGreatDoorS13
namespace Go.Proofs.YtamoenjempnlhaaGreatDoor
open Go.RowKit
set_option maxRecDepth 100000
set_option maxHeartbeats 1600000 in
theorem textW_any (B b : Nat) (bs : List Value) (s : ByteArray) (w : World) (h : IsW B b bs w) (hs : s.size < 128) (hlen : bs.length ≤ 1000000) (hBw : B ≤ w.heap.size) :
    Calls Tryz.prog 126 #[.pointer (some ⟨b, 0, none⟩), .string s] w fun e w' => e = .returned (.tuple #[]) ∧ IsW B b (bs ++ [.int .u8 s.size] ++ Lib.strCells s) w' ∧ Below B w w' := by
  have hnum := num_any B b s.size bs w h hs (by omega) hBw
  have hws := fun w1 (h : IsW B b (bs ++ [.int .u8 s.size]) w1) (hb : B ≤ w1.heap.size) => writeStringW_any B b _ s w1 h (by simp; omega) hb
  have HN := Lib.hid hnum
  have HW := Lib.hid hws
  clear hnum hws h
  go_enter Tryz.func126, Tryz.ntmps126
  go_wp2_with (first
    | (go_at_call 89; refine HN.out.mono ?_; rintro e w1 ⟨rfl, h1⟩; have hs1 := h1.below.size)
    | (go_at_call 113; refine (HW.out _ h1.isw (by omega)).mono ?_; rintro e w2 ⟨rfl, h2, hb2⟩)
    | fail)
  go_end0
  exact ⟨rfl, Or.inr h2, h1.below.trans hb2⟩
set_option maxHeartbeats 1600000 in
theorem text1_any (B b q : Nat) (bs : List Value) (s : ByteArray) (w : World) (h : IsW B b bs w) (hs : s.size < 128) (hlen : bs.length ≤ 1000000) (hBw : B ≤ w.heap.size)
    (hq : w.heap[q]? = some (.cells #[.string s] 9 (0, 0))) :
    Calls Tryz.prog 59 #[.pointer (some ⟨b, 0, none⟩), .slice (some ⟨q, 0, none⟩) 1 1] w fun e w' => e = .returned (.pointer (some ⟨b, 0, none⟩)) ∧ IsW B b (bs ++ [.int .u8 s.size] ++ Lib.strCells s) w' ∧ Below B w w' := by
  have htx := textW_any B b bs s w h hs hlen hBw
  have HT := Lib.hid htx
  have HQ := Lib.hid hq
  clear htx h hq
  go_enter Tryz.func59, Tryz.ntmps59
  go_wp2_with fail
  go_loopg [11] 1 (fun g v wr => (g = 1 ∧ v = .int .i64 0 ∧ wr = w) ∨ (g = 0 ∧ v = .int .i64 1 ∧ IsW B b (bs ++ [.int .u8 s.size] ++ Lib.strCells s) wr ∧ Below B w wr))
  case atStart => exact Or.inl ⟨rfl, rfl, rfl⟩
  case round =>
    rcases hrel with ⟨rfl, rfl, rfl⟩ | ⟨rfl, rfl, hw, hb⟩
    · have c0 : wr.cell? ⟨q, 0, none⟩ = some (.string s) := (cell_of_block HQ.out 0).trans rfl
      go_wp2_with (first
        | (go_at_call 126; refine HT.out.mono ?_; rintro e w1 ⟨rfl, h1, h2⟩)
        | fail)
      go_roundg 0
      case measure => omega
      case rel => exact Or.inr ⟨rfl, rfl, h1, h2⟩
    · go_wp2
      go_ret
      exact ⟨rfl, hw, hb⟩
def snap8 : ByteArray := ⟨#[1, 0, 0, 0, 0, 0, 0, 0]⟩
def head10 : ByteArray := ⟨#[1, 8, 1, 0, 0, 0, 0, 0, 0, 0]⟩
set_option maxHeartbeats 1600000 in
theorem head_any (w : World) :
    Calls Tryz.prog 50 #[.int .u64 1, .string snap8] w fun e w' => e = .returned (.string head10) ∧ Below w.heap.size w w' := by
  obtain ⟨s, hs⟩ : ∃ s, s = snap8 := ⟨_, rfl⟩
  have hs8 : s.size = 8 := by rw [hs]; rfl
  have HS := Lib.hid hs
  rw [← hs]
  clear hs
  go_enter Tryz.func50, Tryz.ntmps50
  go_wp2_with fail
  generalize hW0 : World.alloc _ _ = W0
  have hi0 : IsW w.heap.size w.heap.size [] W0 := by rw [← hW0]; exact fresh_isW _ _ (block_old _ (block_new _ _ _ _ rfl) (by simp))
  have hq0 : W0.heap[w.heap.size + 1]? = some (.cells #[.int .u64 ((1 : Nat) : Int)] 40 (0, 0)) := by rw [← hW0]; exact block_new _ _ _ _ (by simp)
  have hb0 : Below w.heap.size w W0 := by rw [← hW0]; (repeat (first | exact Below.refl _ _ | assumption | refine Below.drew ?_ | refine below_drewN ?_ _ | refine Below.alloc ?_ (by first | omega | (simp; done) | (simp; omega) | (simp at *; omega)) _ | refine Below.setCell ?_ (by first | omega | (simp; done) | (simp; omega)) _ | refine Below.trans ?_ (Below.mono (by assumption) (by first | omega | (simp; done) | (simp; omega) | (simp at *; omega)))))
  have hz0 := hb0.size
  refine (num1_any w.heap.size w.heap.size 1 (w.heap.size + 1) [] W0 hi0 (by decide) (by decide) hz0 hq0 (by omega)).mono ?_
  rintro e w1 ⟨rfl, h1⟩
  have hz1 := h1.below.size
  have hB1 := Lib.hid (hb0.trans h1.below)
  have hI1 := Lib.hid h1.isw
  clear hi0 hq0 hb0 h1 hW0
  go_wp2_with fail
  refine (text1_any w.heap.size w.heap.size w1.heap.size _ s _ (isW_alloc hI1.out _) (by omega) (by decide) (by simp; omega) (block_new _ _ _ _ rfl)).mono ?_
  rintro e w2 ⟨rfl, h2, hb2⟩
  have hfin : IsW w.heap.size w.heap.size (Lib.byteCells [1, 8, 1, 0, 0, 0, 0, 0, 0, 0]) w2 := by
    have := HS.out
    subst this
    exact h2
  have hB2 := Lib.hid ((hB1.out.alloc (by omega) (.cells #[.string s] 9)).trans hb2)
  clear h2 hb2
  go_wp2_with fail
  refine (wString_any w.heap.size w.heap.size [1, 8, 1, 0, 0, 0, 0, 0, 0, 0] _ hfin (by decide)).mono ?_
  rintro e w3 ⟨rfl, hb3⟩
  have hB3 := Lib.hid (hB2.out.trans hb3)
  clear hb3 hfin
  go_wp2
  go_ret
  exact ⟨rfl, hB3.out⟩
theorem fSize_any (n : Nat) (w : World) (h1 : 1 ≤ n) (h2 : n ≤ 32768) : Calls Tryz.prog 53 #[.int .i64 n] w fun e w' => e = .returned (.int .i64 ((n + 8 : Nat) : Int)) ∧ w' = w := by
  have d1 : decide ((n : Int) < 1) = false := by simp; omega
  have d2 : decide ((32768 : Int) < n) = false := by simp; omega
  go_enter Tryz.func53, Tryz.ntmps53
  go_wp2
  go_ret
  exact ⟨ret_int (by omega), rfl⟩
theorem fits_any (s : ByteArray) (r : Nat) (w : World) (h1 : 1 ≤ s.size) (h2 : s.size ≤ 32768) (hr : r ≤ 1000000) : Calls Tryz.prog 51 #[.string s, .int .i64 r] w fun e w' => e = .returned (.bool (decide (s.size + 8 ≤ r))) ∧ w' = w := by
  have d1 : decide ((0 : Int) < ((s.size + 8 : Nat) : Int)) = true := by simp; omega
  go_enter Tryz.func51, Tryz.ntmps51
  go_wp2_with (go_at_call 53; refine (fSize_any s.size _ h1 h2).mono ?_; rintro e w1 ⟨rfl, rfl⟩)
  go_ret
  exact ⟨ret_bool (by simp; omega), rfl⟩
end Go.Proofs.YtamoenjempnlhaaGreatDoor
