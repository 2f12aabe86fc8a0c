import Derived.Test.YtgjiicjbkmcecaaDoorM5
namespace Go.Proofs.YtgjiicjbkmcecaaDoor
open Go.RowKit
def ksL : List Int := [1116352408, 1899447441, 3049323471, 3921009573, 961987163, 1508970993, 2453635748, 2870763221, 3624381080, 310598401, 607225278, 1426881987, 1925078388, 2162078206, 2614888103, 3248222580, 3835390401, 4022224774, 264347078, 604807628, 770255983, 1249150122, 1555081692, 1996064986, 2554220882, 2821834349, 2952996808, 3210313671, 3336571891, 3584528711, 113926993, 338241895, 666307205, 773529912, 1294757372, 1396182291, 1695183700, 1986661051, 2177026350, 2456956037, 2730485921, 2820302411, 3259730800, 3345764771, 3516065817, 3600352804, 4094571909, 275423344, 430227734, 506948616, 659060556, 883997877, 958139571, 1322822218, 1537002063, 1747873779, 1955562222, 2024104815, 2227730452, 2361852424, 2428436474, 2756734187, 3204031479, 3329325298]
def h0L : X8 := ⟨1779033703, 3144134277, 1013904242, 2773480762, 1359893119, 2600822924, 528734635, 1541459225⟩
theorem ksL_len : ksL.length = 64 := rfl
theorem h0L_ok : h0L.ok := by unfold X8.ok h0L; decide
theorem below_setRow {B g : Nat} {a w : World} (h : Below B a w) (hg : B ≤ g) (cs : Array Value) : Below B a (w.setRow g cs) :=
  ⟨h.os, h.tape, h.output, by rw [setRow_size]; exact h.size, fun k hk => (setRow_other w g k cs (by omega)).trans (h.block k hk)⟩
set_option maxRecDepth 100000
set_option maxHeartbeats 1600000 in
theorem begin_any (w : World) : Calls Tryd.prog 21 #[] w fun e w' => e = .returned (.agg h0L.cells) ∧ Below w.heap.size w w' := by
  go_enter Tryd.func21, Tryd.ntmps21
  go_wp2
  exact bodyPost_ret (results_cell_row rfl _ _ (w.heap.size) 55 _ _ _ rfl (block_new _ _ _ _ rfl) Tryd.underlying55 rfl (by kernel_rfl)) rfl ⟨rfl, by (repeat (first | exact Below.refl _ _ | assumption | refine Below.drew ?_ | refine below_drewN ?_ _ | refine Below.alloc ?_ (by first | omega | (simp; done) | (simp; omega) | (simp at *; omega)) _ | refine Below.setCell ?_ (by first | omega | (simp; done) | (simp; omega)) _ | refine Below.trans ?_ (Below.mono (by assumption) (by first | omega | (simp; done) | (simp; omega) | (simp at *; omega)))))⟩
set_option maxHeartbeats 1600000 in
theorem keys_any (w : World) : Calls Tryd.prog 22 #[] w fun e w' => e = .returned (.agg (u32s ksL)) ∧ Below w.heap.size w w' := by
  go_enter Tryd.func22, Tryd.ntmps22
  go_wp2_with (first
    | (refine wpList_build rfl 57 _ rfl (by kernel_rfl) ?_; generalize hq : Option.getD _ _ = q; have hq' : q = u32s ksL := (by rw [← hq]; kernel_rfl); subst hq'; clear hq)
    | (refine wpList_store_row rfl 57 (.tmp 0) (.tmp 1) rfl _ (u32s ksL) rfl rfl 57 _ (block_new _ _ _ _ rfl) (by kernel_rfl) rfl (by kernel_rfl) ?_))
  refine bodyPost_ret (results_cell_row rfl _ _ (w.heap.size) 57 _ _ _ rfl (setRow_heap _ _ _ _ _ _ (block_new _ _ _ _ rfl)) Tryd.underlying57 rfl (by kernel_rfl)) rfl ⟨rfl, ?_⟩
  exact below_setRow (by (repeat (first | exact Below.refl _ _ | assumption | refine Below.drew ?_ | refine below_drewN ?_ _ | refine Below.alloc ?_ (by first | omega | (simp; done) | (simp; omega) | (simp at *; omega)) _ | refine Below.setCell ?_ (by first | omega | (simp; done) | (simp; omega)) _ | refine Below.trans ?_ (Below.mono (by assumption) (by first | omega | (simp; done) | (simp; omega) | (simp at *; omega)))))) (Nat.le_refl _) _
end Go.Proofs.YtgjiicjbkmcecaaDoor
