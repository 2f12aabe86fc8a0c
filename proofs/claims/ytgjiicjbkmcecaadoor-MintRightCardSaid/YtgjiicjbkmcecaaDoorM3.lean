import Derived.Test.YtgjiicjbkmcecaaDoorM2
import Derived.Laws.LoneSync
import Derived.IntWalk
namespace Go.Proofs.YtgjiicjbkmcecaaDoor
open Go.RowKit

/-- A counter's pointer: none, or a block of one cell. -/
def mval (m : Option Nat) : Value := .pointer (m.map fun B => ⟨B, 0, none⟩)
/-- It counts so many more. -/
def tick (m : Option Nat) (n : Int) (w : World) : World := match m with
  | none => w
  | some B => w.setCell ⟨B, 0, none⟩ (.int .i64 n)
/-- It holds so many, and may be written. -/
def holdsN (m : Option Nat) (n : Int) (w : World) : Prop := ∀ B, m = some B → w.cell? ⟨B, 0, none⟩ = some (.int .i64 n) ∧ w.frozen? ⟨B, 0, none⟩ = false ∧ B < w.heap.size ∧ 0 ≤ n ∧ n < 4611686018427387904

theorem size_tick (m : Option Nat) (n : Int) (w : World) : (tick m n w).heap.size = w.heap.size := by
  cases m <;> simp [tick]
theorem block_setCell_self (w : World) (B : Nat) (v : Value) : (w.setCell ⟨B, 0, none⟩ v).heap[B]? = (w.heap[B]?).map (fun | .cells c e f => .cells (c.setIfInBounds 0 v) e f | o => o) := by
  simp only [World.setCell]
  rw [Array.getElem?_modify]
  simp only [if_true]
  cases w.heap[B]? with
  | none => rfl
  | some o => cases o <;> simp
theorem setCell_twice (w : World) (B : Nat) (u v : Value) (k : Nat) : ((w.setCell ⟨B, 0, none⟩ u).setCell ⟨B, 0, none⟩ v).heap[k]? = (w.setCell ⟨B, 0, none⟩ v).heap[k]? := by
  by_cases h : k = B
  · subst h
    rw [block_setCell_self, block_setCell_self, block_setCell_self]
    cases w.heap[k]? with
    | none => rfl
    | some o => cases o <;> simp
  · rw [Below.heap_setCell _ _ _ _ h, Below.heap_setCell _ _ _ _ h, Below.heap_setCell _ _ _ _ h]
theorem setCell_congr {w w' : World} {B k : Nat} (v : Value) (h : w'.heap[k]? = w.heap[k]?) : (w'.setCell ⟨B, 0, none⟩ v).heap[k]? = (w.setCell ⟨B, 0, none⟩ v).heap[k]? := by
  by_cases e : k = B
  · subst e; rw [block_setCell_self, block_setCell_self, h]
  · rw [Below.heap_setCell _ _ _ _ e, Below.heap_setCell _ _ _ _ e, h]
/-- Two countings are one. -/
theorem tick_tick {m : Option Nat} {a b : Int} {D : Nat} {w w1 : World} (h : Below D (tick m a w) w1) : Below D (tick m b w) (tick m b w1) := by
  cases m with
  | none => exact h
  | some B =>
    refine ⟨h.os, h.tape, h.output, by simpa [tick] using h.size, fun k hk => ?_⟩
    simp only [tick]
    rw [setCell_congr _ (h.block k hk)]
    exact setCell_twice _ _ _ _ _
theorem tick_of_below {m : Option Nat} {b : Int} {D : Nat} {w w1 : World} (h : Below D w w1) : Below D (tick m b w) (tick m b w1) := by
  cases m with
  | none => exact h
  | some B =>
    refine ⟨h.os, h.tape, h.output, by simpa [tick] using h.size, fun k hk => ?_⟩
    exact setCell_congr _ (h.block k hk)
theorem holdsN_below {m : Option Nat} {n : Int} {w w1 : World} (h : holdsN m n w) (hb : Below w.heap.size w w1) : holdsN m n w1 := by
  intro B hB
  obtain ⟨h1, h2, h3, h4⟩ := h B hB
  exact ⟨(hb.cell (p := ⟨B, 0, none⟩) h3).trans h1, (hb.frozen (p := ⟨B, 0, none⟩) h3).trans h2, Nat.lt_of_lt_of_le h3 hb.size, h4⟩
theorem holdsN_tick {m : Option Nat} {n k : Int} {w w1 : World} (h : holdsN m n w) (hb : Below w.heap.size (tick m k w) w1) (h0 : 0 ≤ k) (h1 : k < 4611686018427387904) : holdsN m k w1 := by
  intro B hB
  subst hB
  obtain ⟨a1, a2, a3, a4⟩ := h B rfl
  have hc : (w.setCell ⟨B, 0, none⟩ (.int .i64 k)).cell? ⟨B, 0, none⟩ = some (.int .i64 k) := World.cell?_setCell_same' _ _ _ (by rw [a1]; rfl)
  exact ⟨(hb.cell (p := ⟨B, 0, none⟩) a3).trans hc, (hb.frozen (p := ⟨B, 0, none⟩) a3).trans (by simp only [tick]; rw [World.frozen?_setCell]; exact a2), Nat.lt_of_lt_of_le a3 (by have := hb.size; rwa [size_tick] at this), h0, h1⟩

set_option maxRecDepth 100000
set_option maxHeartbeats 800000 in
theorem add_any (B : Nat) (n : Int) (w : World) (h : holdsN (some B) n w) :
    Calls Tryd.prog 34 #[.pointer (some ⟨B, 0, none⟩), .int .i64 1] w fun e w' => e = .returned (.int .i64 (n + 1)) ∧ w' = w.setCell ⟨B, 0, none⟩ (.int .i64 (n + 1)) := by
  obtain ⟨hc, hz, hlt, h0, h1⟩ := h B rfl
  have hadd := run_call_add (P := Tryd.prog) Tryd.func50 (by kernel_rfl) (by kernel_rfl) (by kernel_rfl) .i64 (by kernel_rfl) (y := 1) (s := n + 1) hc hz (by simp [go_sem]; exact IntWalk.i64_in _ (by omega))
  go_enter Tryd.func34, Tryd.ntmps34
  go_wp2
  go_ret
  exact ⟨rfl, rfl⟩
set_option maxHeartbeats 800000 in
theorem load_any (B : Nat) (n : Int) (w : World) (hc : w.cell? ⟨B, 0, none⟩ = some (.int .i64 n)) :
    Calls Tryd.prog 17 #[.pointer (some ⟨B, 0, none⟩)] w fun e w' => e = .returned (.int .i64 n) ∧ w' = w := by
  have hl := run_call_load (P := Tryd.prog) Tryd.func33 (by kernel_rfl) (by kernel_rfl) (by kernel_rfl) .i64 (by kernel_rfl) hc
  go_enter Tryd.func17, Tryd.ntmps17
  go_wp2
  go_ret
  exact ⟨rfl, rfl⟩
set_option maxHeartbeats 800000 in
theorem count_some (B : Nat) (n : Int) (w : World) (hc : w.cell? ⟨B, 0, none⟩ = some (.int .i64 n)) :
    Calls Tryd.prog 8 #[.pointer (some ⟨B, 0, none⟩)] w fun e w' => e = .returned (.int .i64 n) ∧ w' = w := by
  go_enter Tryd.func8, Tryd.ntmps8
  go_wp2_with (go_at_call 17; refine (load_any B n _ hc).mono ?_; rintro e w1 ⟨rfl, rfl⟩)
  go_ret
  exact ⟨rfl, rfl⟩
end Go.Proofs.YtgjiicjbkmcecaaDoor
