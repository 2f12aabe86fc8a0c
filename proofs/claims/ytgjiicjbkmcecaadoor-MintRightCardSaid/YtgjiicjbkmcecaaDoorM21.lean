import Derived.Test.YtgjiicjbkmcecaaDoorM20
namespace Go.Proofs.YtgjiicjbkmcecaaDoor
open Go.RowKit
set_option maxRecDepth 100000
theorem keep6 {b : Nat} {v0 v1 v2 v3 v4 v5 : Value} {w W W' : World} (hb : Below W.heap.size W W') (h : ((W.cell? ⟨b, 0, none⟩ = some v0 ∧ W.cell? ⟨b, 1, none⟩ = some v1 ∧ W.cell? ⟨b, 2, none⟩ = some v2 ∧ W.cell? ⟨b, 3, none⟩ = some v3 ∧ W.cell? ⟨b, 4, none⟩ = some v4 ∧ W.cell? ⟨b, 5, none⟩ = some v5) ∧ Below w.heap.size w W ∧ b < W.heap.size)) :
    ((W'.cell? ⟨b, 0, none⟩ = some v0 ∧ W'.cell? ⟨b, 1, none⟩ = some v1 ∧ W'.cell? ⟨b, 2, none⟩ = some v2 ∧ W'.cell? ⟨b, 3, none⟩ = some v3 ∧ W'.cell? ⟨b, 4, none⟩ = some v4 ∧ W'.cell? ⟨b, 5, none⟩ = some v5) ∧ Below w.heap.size w W' ∧ b < W'.heap.size) := by
  obtain ⟨⟨h0, h1, h2, h3, h4, h5⟩, h6, h7⟩ := h
  have hc := fun j => hb.cell (p := ⟨b, j, none⟩) h7
  exact ⟨⟨(hc 0).trans h0, (hc 1).trans h1, (hc 2).trans h2, (hc 3).trans h3, (hc 4).trans h4, (hc 5).trans h5⟩, h6.trans (hb.mono h6.size), Nat.lt_of_lt_of_le h7 hb.size⟩
set_option maxHeartbeats 6400000 in
theorem right_of (g : ByteArray) (acc p e : Int) (w : World) (hg : g.size = 32) (ha0 : 1 ≤ acc) (ha1 : acc ≤ 99) (hp0 : 1 ≤ p) (hp1 : p ≤ 6) (he0 : 0 ≤ e) (he1 : e ≤ 1099511627776) (hb : MaxCell w) :
    Calls Tryd.prog 7 #[.agg #[.string g, .int .i64 acc, .int .i64 p, .string annS, .int .i64 e, .int .i64 (triesOf p)]] w fun e w' => e = .returned (.bool true) ∧ Below w.heap.size w w' := by
  have ht : 1 ≤ triesOf p := by
    obtain rfl | rfl | rfl | rfl | rfl | rfl : p = 1 ∨ p = 2 ∨ p = 3 ∨ p = 4 ∨ p = 5 ∨ p = 6 := by omega
    all_goals decide
  obtain ⟨q, hq⟩ : ∃ q, q = triesOf p := ⟨_, rfl⟩
  have htr := fun w => tries_any p w
  have how := fun w1 (h : Below w.heap.size w w1) => owned_any g acc p e q w1 ha0 ha1 hp0 hp1 (hb.below h)
  have htm := fun w => timely_any e w
  rw [show timelyOf e = true from decide_eq_true ⟨he0, he1⟩] at htm
  rw [← hq] at ht htr ⊢
  obtain ⟨S, hS⟩ : ∃ S : ByteArray, S = annS := ⟨_, rfl⟩
  rw [← hS] at how ⊢
  have hsz : (g.size : Int) = 32 := by omega
  have d1 : decide (1 ≤ q) = true := by simpa using ht
  have HTR := Lib.hid htr
  have HOW := Lib.hid how
  have HTM := Lib.hid htm
  clear htr how htm hq hS hb hg ht
  go_enter Tryd.func7, Tryd.ntmps7
  go_wp2_with fail
  generalize hW0 : (World.alloc _ _) = W0
  have hS0 : ((W0.cell? ⟨w.heap.size, 0, none⟩ = some (.string g) ∧ W0.cell? ⟨w.heap.size, 1, none⟩ = some (.int .i64 acc) ∧ W0.cell? ⟨w.heap.size, 2, none⟩ = some (.int .i64 p) ∧ W0.cell? ⟨w.heap.size, 3, none⟩ = some (.string S) ∧ W0.cell? ⟨w.heap.size, 4, none⟩ = some (.int .i64 e) ∧ W0.cell? ⟨w.heap.size, 5, none⟩ = some (.int .i64 q)) ∧ Below w.heap.size w W0 ∧ w.heap.size < W0.heap.size) := by
    rw [← hW0]
    refine ⟨⟨(cell_of_block (block_new _ _ _ _ rfl) 0).trans rfl, (cell_of_block (block_new _ _ _ _ rfl) 1).trans rfl, (cell_of_block (block_new _ _ _ _ rfl) 2).trans rfl, (cell_of_block (block_new _ _ _ _ rfl) 3).trans rfl, (cell_of_block (block_new _ _ _ _ rfl) 4).trans rfl, (cell_of_block (block_new _ _ _ _ rfl) 5).trans rfl⟩, (Below.refl _ w).alloc (Nat.le_refl _) _, by simp⟩
  clear hW0
  go_region_held3 (fun w' => (w'.cell? ⟨w.heap.size, 0, none⟩ = some (.string g) ∧ w'.cell? ⟨w.heap.size, 1, none⟩ = some (.int .i64 acc) ∧ w'.cell? ⟨w.heap.size, 2, none⟩ = some (.int .i64 p) ∧ w'.cell? ⟨w.heap.size, 3, none⟩ = some (.string S) ∧ w'.cell? ⟨w.heap.size, 4, none⟩ = some (.int .i64 e) ∧ w'.cell? ⟨w.heap.size, 5, none⟩ = some (.int .i64 q)) ∧ Below w.heap.size w w' ∧ w.heap.size < w'.heap.size)
    (first | exact hS0 | exact keep6 hb1 (by assumption) | exact keep6 (Below.refl _ _).drew hS0 | assumption)
    (first
      | (go_at_call 16; refine (HTR.out _).mono ?_; rintro e w1 ⟨rfl, hb1⟩)
      | (go_at_call 14; refine (HTM.out _).mono ?_; rintro e w1 ⟨rfl, rfl⟩)
      | (go_at_call 13; refine (HOW.out _ hS0.2.1.drew).mono ?_; rintro e w1 ⟨rfl, hb1⟩))
  all_goals go_wp2
  all_goals go_ret
  all_goals exact ⟨rfl, (show (_ ∧ Below w.heap.size w w1 ∧ w.heap.size < w1.heap.size) by assumption).2.1⟩
end Go.Proofs.YtgjiicjbkmcecaaDoor
