import Derived.Test.YtamoenjempnlhaaGreatDoorS3
import Derived.RangeFuncKeeps
import Derived.RangeFuncLeaves
import Derived.RangeFuncBound
import Derived.RangeFuncCalls
import Derived.WalkMore
namespace Go.Proofs.YtamoenjempnlhaaGreatDoor
open Go.RowKit
set_option maxRecDepth 100000
theorem size_putObj' (w : World) (l : Nat) (o : Obj) : (w.putObj l o).heap.size = w.heap.size := by simp [World.putObj]
theorem heap_putObj_ne {w : World} {l k : Nat} (o : Obj) (h : k ≠ l) : (w.putObj l o).heap[k]? = w.heap[k]? := World.putObj_heap_other h
theorem below_putObj {B l : Nat} {A W : World} (h : Below B A W) (hl : B ≤ l) (o : Obj) : Below B A (W.putObj l o) :=
  ⟨h.os, h.tape, h.output, by rw [size_putObj']; exact h.size, fun b hb => (heap_putObj_ne o (by omega)).trans (h.block b hb)⟩
theorem zeroL_size (k : Nat) : (zeroL k).size = k := by
  show (List.replicate k (0 : UInt8)).toArray.size = k
  simp
theorem zeroL_at (k : Nat) (h : 0 < (zeroL k).size) : (zeroL k)[0] = 0 := by
  show (List.replicate k (0 : UInt8)).toArray[0]'(by simpa [zeroL_size] using h) = 0
  simp
set_option maxHeartbeats 1600000 in
theorem next_zero (k : Nat) (w : World) (hk : k ≤ 131072) :
    Calls Tryz.prog 224 #[.string (zeroL k)] w fun e w' => e = .returned (.tuple #[.string ⟨#[]⟩, .int .i64 0, .bool false]) ∧ w' = w := by
  obtain ⟨s, hs⟩ : ∃ s, s = zeroL k := ⟨_, rfl⟩
  have hsz : s.size = k := by rw [hs, zeroL_size]
  rw [← hs]
  by_cases h7 : k < 7
  · have d1 : decide ((s.size : Int) < 7) = true := by simp; omega
    clear hs hsz
    go_enter Tryz.func224, Tryz.ntmps224
    go_wp2
    exact bodyPost_ret (v := .tuple #[.string ⟨#[]⟩, .int .i64 0, .bool false]) (by simp [results, Tryz.results224, go_sem]) rfl ⟨rfl, rfl⟩
  · have d1 : decide ((s.size : Int) < 7) = false := by simp; omega
    have h0s : 0 < s.size := by omega
    have hat : s[0] = 0 := by subst hs; exact zeroL_at k _
    clear hs hsz
    go_enter Tryz.func224, Tryz.ntmps224
    go_wp2
    exact bodyPost_ret (v := .tuple #[.string ⟨#[]⟩, .int .i64 0, .bool false]) (by simp [results, Tryz.results224, go_sem]) rfl ⟨rfl, rfl⟩
set_option maxHeartbeats 1600000 in
theorem records_any (t : ByteArray) (w : World) :
    Calls Tryz.prog 170 #[.string t] w fun e w' => e = .returned (.func (.func 223) #[] #[.pointer (some ⟨w.heap.size, 0, none⟩)]) ∧ w'.heap[w.heap.size]? = some (.cells #[.string t] 9 (0, 0)) ∧ Below w.heap.size w w' := by
  go_enter Tryz.func170, Tryz.ntmps170
  go_wp2
  go_ret
  exact ⟨rfl, block_new _ _ _ _ rfl, by (repeat (first | exact Below.refl _ _ | assumption | refine Below.drew ?_ | refine below_drewN ?_ _ | refine Below.alloc ?_ (by first | omega | (simp; done) | (simp; omega) | (simp at *; omega)) _ | refine Below.setCell ?_ (by first | omega | (simp; done) | (simp; omega)) _ | refine Below.trans ?_ (Below.mono (by assumption) (by first | omega | (simp; done) | (simp; omega) | (simp at *; omega)))))⟩
set_option maxHeartbeats 1600000 in
theorem iter_zero (k Bs l : Nat) (w : World) (hk : k ≤ 131072) (hS : w.heap[Bs]? = some (.cells #[.string (zeroL k)] 9 (0, 0))) :
    Calls Tryz.prog 223 #[.func (.yield l) #[] #[], .pointer (some ⟨Bs, 0, none⟩)] w fun e w' => e = .returned (.tuple #[]) ∧ w' = w := by
  have hnx := fun w => next_zero k w hk
  have hz := zeroL_size k
  generalize zeroL k = s at hS hnx hz
  have c0 : w.cell? ⟨Bs, 0, none⟩ = some (.string s) := (cell_of_block hS 0).trans rfl
  have HN := Lib.hid hnx
  clear hnx hS hz
  go_enter Tryz.func223, Tryz.ntmps223
  go_step3
  go_wp2_with fail
  go_step3
  go_wp2_with fail
  go_loopg [3, 4, 5, 6] 0 (fun g v x y z wr => v = .int .i64 0 ∧ wr = w)
  case atStart => exact ⟨rfl, rfl⟩
  case round =>
    obtain ⟨rfl, rfl⟩ := hrel
    have hle : decide ((0 : Int) ≤ s.size) = true := by simp
    go_wp2_with (first
      | (go_at_call 224; refine (HN.out _).mono ?_; rintro e w1 ⟨rfl, rfl⟩)
      | fail)
    rw [Exit.noGoto_normal]
    go_end0
    exact ⟨rfl, rfl⟩
/-- A range over records that never yields: nothing is done. -/
theorem wp_range_none {g : Operand} {ps : Array Tmp} {assign body : Code} {Q : Exit → Act → World → Prop} {a : Act} {w : World} (k Bs m : Nat) (hk : k ≤ 131072)
    (hg : a.eval g = .func (.func 223) #[] #[.pointer (some ⟨Bs, 0, none⟩)])
    (hBs : w.heap[Bs]? = some (.cells #[.string (zeroL k)] 9 (0, 0)))
    (hdone : ∀ (D : Nat) (W : World), D = w.heap.size → Below w.heap.size w W → D < W.heap.size → W.heap[D]? = some (.deferred (some [])) → Q .normal { a with defers := { target := .collected D, args := #[] } :: a.defers } W) :
    (Code.rangeFunc g ps assign body).wp Tryz.prog Q a w := by
  refine (wpIn_wide (n := m + 1)).1 (wpIn_rangeFunc ?_)
  intro fn hfn
  rw [Fence.wide_round]
  obtain ⟨rec, hrec⟩ : ∃ rec : LoopState → Option Code → Loop, rec = fun st pe => { state := st, pending := pe, fn, tmps := a.tmps, params := ps, assign, body, defers := w.heap.size } := ⟨_, rfl⟩
  obtain ⟨W1, hW1⟩ : ∃ W1, (w.alloc (.deferred (some []))).alloc (.loop (rec .ready none)) = W1 := ⟨_, rfl⟩
  have hL1 : W1.heap[w.heap.size + 1]? = some (.loop (rec .ready none)) := by
    rw [← hW1]; have := World.alloc_heap_new (w.alloc (.deferred (some []))) (.loop (rec .ready none)); rwa [World.size_alloc] at this
  have hK1 : W1.heap[w.heap.size]? = some (.deferred (some [])) := by
    rw [← hW1]; exact (Below.heap_alloc _ _ _ (by simp)).trans (World.alloc_heap_new w _)
  have hb1 : Below w.heap.size w W1 := by
    rw [← hW1]; exact (((Below.refl _ w).alloc (Nat.le_refl _) _).alloc (by simp) _)
  have hBsl : Bs < w.heap.size := lt_of_block' hBs
  refine ⟨w.heap.size + 1, [{ target := .collected w.heap.size, args := #[] }], W1, { target := .fn (.func 223) #[.pointer (some ⟨Bs, 0, none⟩)], args := #[.func (.yield (w.heap.size + 1)) #[] #[]] }, W1, 223,
    #[.func (.yield (w.heap.size + 1)) #[] #[]] ++ #[.pointer (some ⟨Bs, 0, none⟩)], W1, ?_, ?_, fun _ _ => trivial, ?_, fun _ => Nat.succ_le_succ (Nat.zero_le _), ?_⟩
  · rw [← hW1, hrec]; exact run_enterLoop_outer _ _ _ _ _
  · simp only [resolve, hg]
    simp [go_sem]
  · have eg := enters_of (P := Tryz.prog) Tryz.func223 (by kernel_rfl) rfl
    simp [invoke, go_sem, eg]
  · refine callsIn_wide.2 ?_
    refine (iter_zero k Bs (w.heap.size + 1) W1 hk ((hb1.block _ hBsl).trans hBs)).mono ?_
    rintro e W2 ⟨rfl, rfl⟩
    refine ⟨none, _, by have := run_endLoop (P := Tryz.prog) hL1 (by rw [hrec]; simp); rw [hrec] at this; exact this, ?_⟩
    exact hdone _ _ rfl (below_putObj (hb1) (by omega) _) (by rw [size_putObj']; exact lt_of_block' hK1) ((heap_putObj_ne _ (by omega)).trans hK1)
end Go.Proofs.YtamoenjempnlhaaGreatDoor
