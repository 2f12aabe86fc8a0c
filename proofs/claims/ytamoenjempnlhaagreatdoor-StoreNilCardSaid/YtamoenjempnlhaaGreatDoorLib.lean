import Derived.WalkKit
import Derived.WalkLawsBesides
import Derived.WalkSpells
import Derived.Deep.QuietTactic
import Derived.BigQuiet
import Derived.Deep.RegionHeld3
import Derived.Deep.LoopGhost
import Derived.Lib.Hide
import Derived.IntWalk
namespace Go.Proofs.YtamoenjempnlhaaGreatDoor
open Go.RowKit
/-- A call that turns nothing, in a region behind draws. -/
theorem quietD {P : Program} {f : FuncId} {args : Array Value} {w : World} {a n : Nat} {v : Value}
    (h : Calls P f args (w.drewN (a + n)) fun e w' => e = .returned v ∧ w' = w.drewN (a + n)) :
    Calls P f args (w.drewN (a + n)) fun e w'' => e = .returned v ∧ ∃ m, w'' = w.drewN (a + m) :=
  h.mono fun _ _ h => ⟨h.1, n, h.2⟩
theorem bcell {W w1 : World} (hb : Below W.heap.size W w1) : (∀ b o, b < W.heap.size → w1.cell? ⟨b, o, none⟩ = W.cell? ⟨b, o, none⟩) ∧ (∀ b o, b < W.heap.size → w1.frozen? ⟨b, o, none⟩ = W.frozen? ⟨b, o, none⟩) :=
  ⟨fun b o h => hb.cell (p := ⟨b, o, none⟩) h, fun b o h => hb.frozen (p := ⟨b, o, none⟩) h⟩
/-- A store into a block whose cells are known. -/
theorem setCell_block {w : World} {b : Nat} {c : Array Value} {t : TypeId} {f : Nat × Nat} (h : w.heap[b]? = some (.cells c t f)) (j : Nat) (v : Value) :
    (w.setCell ⟨b, j, none⟩ v).heap[b]? = some (.cells (c.setIfInBounds j v) t f) := by
  simp only [World.setCell]
  rw [Array.getElem?_modify]
  simp [h]
theorem setCell_far {w : World} {b b' : Nat} {o : Option Obj} (h : w.heap[b]? = o) (hb : b ≠ b') (j : Nat) (v : Value) : (w.setCell ⟨b', j, none⟩ v).heap[b]? = o :=
  (Below.heap_setCell w ⟨b', j, none⟩ v b hb).trans h
theorem size_setCell (w : World) (a : Addr) (v : Value) : (w.setCell a v).heap.size = w.heap.size := by simp [World.setCell]
theorem cell_of_block {w : World} {b : Nat} {c : Array Value} {t : TypeId} {f : Nat × Nat} (h : w.heap[b]? = some (.cells c t f)) (j : Nat) : w.cell? ⟨b, j, none⟩ = c[j]? := by
  simp [World.cell?, h]
theorem free_of_block {w : World} {b : Nat} {c : Array Value} {t : TypeId} (h : w.heap[b]? = some (.cells c t (0, 0))) (j : Nat) : w.frozen? ⟨b, j, none⟩ = false := by
  simp [World.frozen?, h]
theorem lt_of_block' {w : World} {b : Nat} {o : Obj} (h : w.heap[b]? = some o) : b < w.heap.size := (Array.getElem?_eq_some_iff.1 h).1
theorem block_new (w : World) (c : Array Value) (t : TypeId) (b : Nat) (hb : b = w.heap.size) : (w.alloc (.cells c t)).heap[b]? = some (.cells c t (0, 0)) := by
  subst hb; exact Array.getElem?_push_size
theorem block_old {w : World} {o : Option Obj} {b : Nat} (o' : Obj) (h : w.heap[b]? = o) (hb : b < w.heap.size) : (w.alloc o').heap[b]? = o := (Below.heap_alloc w o' b hb).trans h
end Go.Proofs.YtamoenjempnlhaaGreatDoor
