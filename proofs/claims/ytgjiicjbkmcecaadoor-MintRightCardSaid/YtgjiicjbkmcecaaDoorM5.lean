import Derived.Test.YtgjiicjbkmcecaaDoorM4
namespace Go.Proofs.YtgjiicjbkmcecaaDoor
open Go.RowKit
structure X8 where
  (a b c d e f g h : Int)
def X8.cells (x : X8) : Array Value := #[.int .u32 x.a, .int .u32 x.b, .int .u32 x.c, .int .u32 x.d, .int .u32 x.e, .int .u32 x.f, .int .u32 x.g, .int .u32 x.h]
def X8.ok (x : X8) : Prop := (0 ≤ x.a ∧ x.a < 4294967296) ∧ (0 ≤ x.b ∧ x.b < 4294967296) ∧ (0 ≤ x.c ∧ x.c < 4294967296) ∧ (0 ≤ x.d ∧ x.d < 4294967296) ∧ (0 ≤ x.e ∧ x.e < 4294967296) ∧ (0 ≤ x.f ∧ x.f < 4294967296) ∧ (0 ≤ x.g ∧ x.g < 4294967296) ∧ (0 ≤ x.h ∧ x.h < 4294967296)
def X8.get (x : X8) (j : Nat) : Int := match j with | 0 => x.a | 1 => x.b | 2 => x.c | 3 => x.d | 4 => x.e | 5 => x.f | 6 => x.g | _ => x.h
def u32s (xs : List Int) : Array Value := (xs.map (Value.int .u32)).toArray
/-- One round, as the walk spells it. -/
def stepF (kk ww : Int) (x : X8) : X8 :=
  { a := (x.h + bits BinOp.xor IntKind.u32 (bits BinOp.xor IntKind.u32 (rr x.e 6) (rr x.e 11)) (rr x.e 25) + bits BinOp.xor IntKind.u32 x.g (bits BinOp.and IntKind.u32 x.e (bits BinOp.xor IntKind.u32 x.f x.g)) + kk + ww +
      (bits BinOp.xor IntKind.u32 (bits BinOp.xor IntKind.u32 (rr x.a 2) (rr x.a 13)) (rr x.a 22) + bits BinOp.or IntKind.u32 (bits BinOp.and IntKind.u32 x.a x.b) (bits BinOp.and IntKind.u32 (bits BinOp.or IntKind.u32 x.a x.b) x.c))) % 4294967296
    b := x.a, c := x.b, d := x.c
    e := (x.d + (x.h + bits BinOp.xor IntKind.u32 (bits BinOp.xor IntKind.u32 (rr x.e 6) (rr x.e 11)) (rr x.e 25) + bits BinOp.xor IntKind.u32 x.g (bits BinOp.and IntKind.u32 x.e (bits BinOp.xor IntKind.u32 x.f x.g)) + kk + ww)) % 4294967296
    f := x.e, g := x.f, h := x.g }
theorem stepF_ok (kk ww : Int) (x : X8) (h : x.ok) : (stepF kk ww x).ok := by
  obtain ⟨h1, h2, h3, h4, h5, h6, h7, h8⟩ := h
  unfold X8.ok stepF
  dsimp only
  exact ⟨⟨Int.emod_nonneg _ (by decide), Int.emod_lt_of_pos _ (by decide)⟩, h1, h2, h3, ⟨Int.emod_nonneg _ (by decide), Int.emod_lt_of_pos _ (by decide)⟩, h5, h6, h7⟩
def roundsF (ks ws : List Int) (h : X8) : Nat → X8
  | 0 => h
  | k + 1 => stepF (ks.getD k 0) (ws.getD k 0) (roundsF ks ws h k)
/-- The cells while the sums are laid: the first k are. -/
def mixC (h x : X8) (k : Nat) : Array Value := ((List.range 8).map fun j => Value.int .u32 (if j < k then (h.get j + x.get j) % 4294967296 else h.get j)).toArray
def sumF (h x : X8) : X8 := ⟨(h.a + x.a) % 4294967296, (h.b + x.b) % 4294967296, (h.c + x.c) % 4294967296, (h.d + x.d) % 4294967296, (h.e + x.e) % 4294967296, (h.f + x.f) % 4294967296, (h.g + x.g) % 4294967296, (h.h + x.h) % 4294967296⟩
theorem mixC_zero (h x : X8) : mixC h x 0 = h.cells := rfl
theorem mixC_eight (h x : X8) : mixC h x 8 = (sumF h x).cells := rfl
theorem mixC_at (h x : X8) (k : Nat) (hk : k < 8) : (mixC h x k)[k]? = some (.int .u32 (h.get k)) := by
  obtain rfl | rfl | rfl | rfl | rfl | rfl | rfl | rfl : k = 0 ∨ k = 1 ∨ k = 2 ∨ k = 3 ∨ k = 4 ∨ k = 5 ∨ k = 6 ∨ k = 7 := by omega
  all_goals rfl
theorem mixC_set (h x : X8) (k : Nat) (hk : k < 8) : (mixC h x k).setIfInBounds k (.int .u32 ((h.get k + x.get k) % 4294967296)) = mixC h x (k + 1) := by
  obtain rfl | rfl | rfl | rfl | rfl | rfl | rfl | rfl : k = 0 ∨ k = 1 ∨ k = 2 ∨ k = 3 ∨ k = 4 ∨ k = 5 ∨ k = 6 ∨ k = 7 := by omega
  all_goals rfl
theorem cells_at (x : X8) (k : Nat) (hk : k < 8) : x.cells[k]? = some (.int .u32 (x.get k)) := by
  obtain rfl | rfl | rfl | rfl | rfl | rfl | rfl | rfl : k = 0 ∨ k = 1 ∨ k = 2 ∨ k = 3 ∨ k = 4 ∨ k = 5 ∨ k = 6 ∨ k = 7 := by omega
  all_goals rfl
theorem u32s_at (xs : List Int) (k : Nat) (hk : k < xs.length) : (u32s xs)[k]? = some (.int .u32 (xs.getD k 0)) := by
  simp [u32s, List.getD_eq_getElem?_getD, hk]
theorem arr8 (c : Array Value) (h : c.size = 8) : ∃ r : Nat → Value, c = #[r 0, r 1, r 2, r 3, r 4, r 5, r 6, r 7] := by
  obtain ⟨l⟩ := c
  match l, h with
  | [a, b, c, d, e, f, g, i], _ => exact ⟨fun j => match j with | 0 => a | 1 => b | 2 => c | 3 => d | 4 => e | 5 => f | 6 => g | _ => i, rfl⟩
theorem set8g {w : World} {b : Nat} {t : TypeId} {a0 a1 a2 a3 a4 a5 a6 a7 : Value} (h : w.heap[b]? = some (.cells #[a0, a1, a2, a3, a4, a5, a6, a7] t (0, 0))) (v0 v1 v2 v3 v4 v5 v6 v7 : Value) :
    ((((((((w.setCell ⟨b, 0, none⟩ v0).setCell ⟨b, 1, none⟩ v1).setCell ⟨b, 2, none⟩ v2).setCell ⟨b, 3, none⟩ v3).setCell ⟨b, 4, none⟩ v4).setCell ⟨b, 5, none⟩ v5).setCell ⟨b, 6, none⟩ v6).setCell ⟨b, 7, none⟩ v7).heap[b]? = some (.cells #[v0, v1, v2, v3, v4, v5, v6, v7] t (0, 0)) := by
  have e := setCell_block (setCell_block (setCell_block (setCell_block (setCell_block (setCell_block (setCell_block (setCell_block h 0 v0) 1 v1) 2 v2) 3 v3) 4 v4) 5 v5) 6 v6) 7 v7
  rw [e]
  simp
set_option maxRecDepth 100000
set_option maxHeartbeats 3200000 in
theorem in_any (h : X8) (ks ws : List Int) (w : World) (hh : h.ok) (hk : ks.length = 64) (hw : ws.length = 64) :
    Calls Tryd.prog 26 #[.agg #[.int .u32 h.a, .int .u32 h.b, .int .u32 h.c, .int .u32 h.d, .int .u32 h.e, .int .u32 h.f, .int .u32 h.g, .int .u32 h.h], .agg (u32s ks), .agg (u32s ws)] w fun e w' => e = .returned (.agg (sumF h (roundsF ks ws h 64)).cells) ∧ Below w.heap.size w w' := by
  go_enter Tryd.func26, Tryd.ntmps26
  go_wp2
  generalize hW0 : (World.alloc _ _) = W0
  have hsz : W0.heap.size = w.heap.size + 5 := by rw [← hW0]; simp
  have hB0 : Below w.heap.size w W0 := by rw [← hW0]; (repeat (first | exact Below.refl _ _ | assumption | refine Below.drew ?_ | refine below_drewN ?_ _ | refine Below.alloc ?_ (by first | omega | (simp; done) | (simp; omega) | (simp at *; omega)) _ | refine Below.setCell ?_ (by first | omega | (simp; done) | (simp; omega)) _ | refine Below.trans ?_ (Below.mono (by assumption) (by first | omega | (simp; done) | (simp; omega) | (simp at *; omega)))))
  have hX0 : W0.heap[w.heap.size + 1 + 1 + 1 + 1]? = some (.cells h.cells 55 (0, 0)) := by rw [← hW0]; exact block_new _ _ _ _ (by first | omega | (simp; done) | (simp; omega))
  have hH0 : W0.heap[w.heap.size]? = some (.cells h.cells 55 (0, 0)) := by
    rw [← hW0]; exact block_old _ (block_old _ (block_old _ (block_old _ (block_new _ _ _ _ rfl) (by first | omega | (simp; done) | (simp; omega))) (by first | omega | (simp; done) | (simp; omega))) (by first | omega | (simp; done) | (simp; omega))) (by first | omega | (simp; done) | (simp; omega))
  have hR0 : ∃ c, W0.heap[w.heap.size + 1 + 1 + 1]? = some (.cells c 55 (0, 0)) ∧ c.size = 8 := by
    rw [← hW0]; exact ⟨_, block_old _ (block_new _ _ _ _ (by first | omega | (simp; done) | (simp; omega))) (by first | omega | (simp; done) | (simp; omega)), rfl⟩
  have hK0 : W0.heap[w.heap.size + 1]? = some (.cells (u32s ks) 57 (0, 0)) := by
    rw [← hW0]; exact block_old _ (block_old _ (block_old _ (block_new _ _ _ _ (by first | omega | (simp; done) | (simp; omega))) (by first | omega | (simp; done) | (simp; omega))) (by first | omega | (simp; done) | (simp; omega))) (by first | omega | (simp; done) | (simp; omega))
  have hS0 : W0.heap[w.heap.size + 1 + 1]? = some (.cells (u32s ws) 57 (0, 0)) := by
    rw [← hW0]; exact block_old _ (block_old _ (block_new _ _ _ _ (by first | omega | (simp; done) | (simp; omega))) (by first | omega | (simp; done) | (simp; omega))) (by first | omega | (simp; done) | (simp; omega))
  clear hW0
  have HSZ := Lib.hid hsz
  have HX0 := Lib.hid hX0
  have HH0 := Lib.hid hH0
  have HR0 := Lib.hid hR0
  have HK0 := Lib.hid hK0
  have HS0 := Lib.hid hS0
  have HK := Lib.hid hk
  have HW := Lib.hid hw
  clear hsz hX0 hH0 hR0 hK0 hS0 hk hw
  go_loopw [15] (fun i wr => ∃ k : Nat, k ≤ 64 ∧ i = .int .i64 k ∧ (roundsF ks ws h k).ok ∧ wr.heap[w.heap.size + 1 + 1 + 1 + 1]? = some (.cells (roundsF ks ws h k).cells 55 (0, 0)) ∧ Below (w.heap.size + 4) W0 wr ∧ wr.heap.size = w.heap.size + 5)
    (fun i _ => 64 - (intOf i).toNat)
  case atStart => exact ⟨0, by omega, rfl, hh, HX0.out, Below.refl _ _, HSZ.out⟩
  case round =>
    obtain ⟨k, hk64, rfl, hx, hX, hB, hs⟩ := hrel
    by_cases hlt : k < 64
    · obtain ⟨x, hxe⟩ : ∃ x, x = roundsF ks ws h k := ⟨_, rfl⟩
      rw [← hxe] at hx hX
      have c0 : wr.cell? ⟨w.heap.size + 1 + 1 + 1 + 1, 0, none⟩ = some (.int .u32 x.a) := (cell_of_block hX 0).trans rfl
      have c1 : wr.cell? ⟨w.heap.size + 1 + 1 + 1 + 1, 1, none⟩ = some (.int .u32 x.b) := (cell_of_block hX 1).trans rfl
      have c2 : wr.cell? ⟨w.heap.size + 1 + 1 + 1 + 1, 2, none⟩ = some (.int .u32 x.c) := (cell_of_block hX 2).trans rfl
      have c3 : wr.cell? ⟨w.heap.size + 1 + 1 + 1 + 1, 3, none⟩ = some (.int .u32 x.d) := (cell_of_block hX 3).trans rfl
      have c4 : wr.cell? ⟨w.heap.size + 1 + 1 + 1 + 1, 4, none⟩ = some (.int .u32 x.e) := (cell_of_block hX 4).trans rfl
      have c5 : wr.cell? ⟨w.heap.size + 1 + 1 + 1 + 1, 5, none⟩ = some (.int .u32 x.f) := (cell_of_block hX 5).trans rfl
      have c6 : wr.cell? ⟨w.heap.size + 1 + 1 + 1 + 1, 6, none⟩ = some (.int .u32 x.g) := (cell_of_block hX 6).trans rfl
      have c7 : wr.cell? ⟨w.heap.size + 1 + 1 + 1 + 1, 7, none⟩ = some (.int .u32 x.h) := (cell_of_block hX 7).trans rfl
      obtain ⟨kk, hkk⟩ : ∃ kk, kk = ks.getD k 0 := ⟨_, rfl⟩
      obtain ⟨ww, hww⟩ : ∃ ww, ww = ws.getD k 0 := ⟨_, rfl⟩
      have ck : wr.cell? ⟨w.heap.size + 1, k, none⟩ = some (.int .u32 kk) := by
        rw [hkk]; exact (cell_of_block ((hB.block _ (by omega)).trans HK0.out) k).trans (u32s_at _ _ (by have := HK.out; omega))
      have cw : wr.cell? ⟨w.heap.size + 1 + 1, k, none⟩ = some (.int .u32 ww) := by
        rw [hww]; exact (cell_of_block ((hB.block _ (by omega)).trans HS0.out) k).trans (u32s_at _ _ (by have := HW.out; omega))
      have z0 := free_of_block hX 0
      have z1 := free_of_block hX 1
      have z2 := free_of_block hX 2
      have z3 := free_of_block hX 3
      have z4 := free_of_block hX 4
      have z5 := free_of_block hX 5
      have z6 := free_of_block hX 6
      have z7 := free_of_block hX 7
      have HKK := Lib.hid hkk
      have HWW := Lib.hid hww
      have HXE := Lib.hid hxe
      have HOK := Lib.hid hx
      have HX := Lib.hid hX
      have HS := Lib.hid hs
      obtain ⟨⟨a0, a1⟩, ⟨b0, b1⟩, ⟨d0, d1⟩, ⟨e0, e1⟩, ⟨f0, f1⟩, ⟨g0, g1⟩, ⟨i0, i1⟩, ⟨j0, j1⟩⟩ := hx
      clear hX hs hkk hww hxe
      go_wp2_with fail
      go_quiet (fail)
      go_wp2_with fail
      go_quiet ((go_at_call 37; (first | exact Calls.quiet_of_same (right_any _ _ _ (by omega) (by omega) (by omega) (by omega)) | exact quietD (right_any _ _ _ (by omega) (by omega) (by omega) (by omega)))))
      go_wp2_with fail
      go_quiet ((go_at_call 37; (first | exact Calls.quiet_of_same (right_any _ _ _ (by omega) (by omega) (by omega) (by omega)) | exact quietD (right_any _ _ _ (by omega) (by omega) (by omega) (by omega)))))
      go_wp2
      go_roundw
      case rel =>
        have hE : roundsF ks ws h (k + 1) = stepF kk ww x := by rw [HKK.out, HWW.out, HXE.out]; rfl
        refine ⟨k + 1, by omega, by go_num, by rw [hE]; exact stepF_ok _ _ _ HOK.out, ?_, ?_, ?_⟩
        · rw [hE]
          exact set8g (w := wr.drewN _) (a0 := .int .u32 x.a) (a1 := .int .u32 x.b) (a2 := .int .u32 x.c) (a3 := .int .u32 x.d) (a4 := .int .u32 x.e) (a5 := .int .u32 x.f) (a6 := .int .u32 x.g) (a7 := .int .u32 x.h) HX.out _ _ _ _ _ _ _ _
        · exact ((((((((below_drewN hB _).setCell (by simp) _).setCell (by simp) _).setCell (by simp) _).setCell (by simp) _).setCell (by simp) _).setCell (by simp) _).setCell (by simp) _).setCell (by simp) _
        · simp only [size_setCell]; exact HS.out
      case measure => simp [intOf]; omega
    · obtain rfl : k = 64 := by omega
      obtain ⟨x, hxe⟩ : ∃ x, x = roundsF ks ws h 64 := ⟨_, rfl⟩
      rw [← hxe] at hx hX
      have hH : wr.heap[w.heap.size]? = some (.cells h.cells 55 (0, 0)) := (hB.block _ (by omega)).trans HH0.out
      have hR : ∃ c, wr.heap[w.heap.size + 1 + 1 + 1]? = some (.cells c 55 (0, 0)) ∧ c.size = 8 := by
        obtain ⟨c, h1, h2⟩ := HR0.out
        exact ⟨c, (hB.block _ (by omega)).trans h1, h2⟩
      have hBw : Below w.heap.size w wr := hB0.trans (hB.mono (by omega))
      have HX := Lib.hid hX
      have HH := Lib.hid hH
      have HR := Lib.hid hR
      have HS := Lib.hid hs
      have HOK := Lib.hid hx
      have HXE := Lib.hid hxe
      clear hX hH hR hs hx hxe hB HX0 HH0 HR0 HK0 HS0 HK HW HSZ hB0
      go_wp2
      go_loopw [92] (fun i wq => ∃ k : Nat, k ≤ 8 ∧ i = .int .i64 k ∧ wq.heap[w.heap.size]? = some (.cells (mixC h x k) 55 (0, 0)) ∧ wq.heap[w.heap.size + 1 + 1 + 1 + 1]? = some (.cells x.cells 55 (0, 0)) ∧ (∃ c, wq.heap[w.heap.size + 1 + 1 + 1]? = some (.cells c 55 (0, 0)) ∧ c.size = 8) ∧ Below w.heap.size w wq)
        (fun i _ => 8 - (intOf i).toNat)
      case atStart => exact ⟨0, by omega, rfl, by rw [mixC_zero]; exact HH.out, HX.out, HR.out, hBw⟩
      case round =>
        obtain ⟨k, hk8, rfl, hM, hX, hR, hB⟩ := hrel
        clear HH HR HS hBw
        by_cases hl8 : k < 8
        · obtain ⟨hv, hhv⟩ : ∃ hv, hv = h.get k := ⟨_, rfl⟩
          obtain ⟨xv, hxv⟩ : ∃ xv, xv = x.get k := ⟨_, rfl⟩
          have c0 : World.cell? _ ⟨w.heap.size, k, none⟩ = some (.int .u32 hv) := (cell_of_block hM k).trans (by rw [hhv]; exact mixC_at h x k hl8)
          have c1 : World.cell? _ ⟨w.heap.size + 1 + 1 + 1 + 1, k, none⟩ = some (.int .u32 xv) := (cell_of_block hX k).trans (by rw [hxv]; exact cells_at x k hl8)
          have z0 := free_of_block hM k
          have HM := Lib.hid hM
          have HX := Lib.hid hX
          have HR := Lib.hid hR
          have HHV := Lib.hid hhv
          have HXV := Lib.hid hxv
          clear hM hX hR hhv hxv
          go_wp2
          go_region
          all_goals go_wp2
          go_roundw
          case rel =>
            refine ⟨k + 1, by omega, by go_num, ?_, ?_, ?_, ?_⟩
            · rw [← mixC_set h x k hl8, ← HHV.out, ← HXV.out]
              exact setCell_block HM.out k _
            · exact setCell_far HX.out (by first | omega | (simp; done) | (simp; omega)) _ _
            · obtain ⟨c, h1, h2⟩ := HR.out
              exact ⟨c, setCell_far h1 (by first | omega | (simp; done) | (simp; omega)) _ _, h2⟩
            · exact (hB.drew).setCell (Nat.le_refl _) _
          case measure => simp [intOf]; omega
        · obtain rfl : k = 8 := by omega
          rw [mixC_eight] at hM
          have c0 : World.cell? _ ⟨w.heap.size, 0, none⟩ = some (.int .u32 (sumF h x).a) := (cell_of_block hM 0).trans rfl
          have c1 : World.cell? _ ⟨w.heap.size, 1, none⟩ = some (.int .u32 (sumF h x).b) := (cell_of_block hM 1).trans rfl
          have c2 : World.cell? _ ⟨w.heap.size, 2, none⟩ = some (.int .u32 (sumF h x).c) := (cell_of_block hM 2).trans rfl
          have c3 : World.cell? _ ⟨w.heap.size, 3, none⟩ = some (.int .u32 (sumF h x).d) := (cell_of_block hM 3).trans rfl
          have c4 : World.cell? _ ⟨w.heap.size, 4, none⟩ = some (.int .u32 (sumF h x).e) := (cell_of_block hM 4).trans rfl
          have c5 : World.cell? _ ⟨w.heap.size, 5, none⟩ = some (.int .u32 (sumF h x).f) := (cell_of_block hM 5).trans rfl
          have c6 : World.cell? _ ⟨w.heap.size, 6, none⟩ = some (.int .u32 (sumF h x).g) := (cell_of_block hM 6).trans rfl
          have c7 : World.cell? _ ⟨w.heap.size, 7, none⟩ = some (.int .u32 (sumF h x).h) := (cell_of_block hM 7).trans rfl
          obtain ⟨c, hR1, hR2⟩ := hR
          obtain ⟨r, rfl⟩ := arr8 c hR2
          have z0 := free_of_block hR1 0
          have z1 := free_of_block hR1 1
          have z2 := free_of_block hR1 2
          have z3 := free_of_block hR1 3
          have z4 := free_of_block hR1 4
          have z5 := free_of_block hR1 5
          have z6 := free_of_block hR1 6
          have z7 := free_of_block hR1 7
          have e0 := cell_of_block hR1
          have d0 : World.cell? _ ⟨w.heap.size + 1 + 1 + 1, 0, none⟩ = some (r 0) := (cell_of_block hR1 0).trans rfl
          have d1 : World.cell? _ ⟨w.heap.size + 1 + 1 + 1, 1, none⟩ = some (r 1) := (cell_of_block hR1 1).trans rfl
          have d2 : World.cell? _ ⟨w.heap.size + 1 + 1 + 1, 2, none⟩ = some (r 2) := (cell_of_block hR1 2).trans rfl
          have d3 : World.cell? _ ⟨w.heap.size + 1 + 1 + 1, 3, none⟩ = some (r 3) := (cell_of_block hR1 3).trans rfl
          have d4 : World.cell? _ ⟨w.heap.size + 1 + 1 + 1, 4, none⟩ = some (r 4) := (cell_of_block hR1 4).trans rfl
          have d5 : World.cell? _ ⟨w.heap.size + 1 + 1 + 1, 5, none⟩ = some (r 5) := (cell_of_block hR1 5).trans rfl
          have d6 : World.cell? _ ⟨w.heap.size + 1 + 1 + 1, 6, none⟩ = some (r 6) := (cell_of_block hR1 6).trans rfl
          have d7 : World.cell? _ ⟨w.heap.size + 1 + 1 + 1, 7, none⟩ = some (r 7) := (cell_of_block hR1 7).trans rfl
          have HR1 := Lib.hid hR1
          clear hM hX hR1 e0
          obtain ⟨y, hy⟩ : ∃ y, y = sumF h x := ⟨_, rfl⟩
          rw [← hy] at c0 c1 c2 c3 c4 c5 c6 c7
          have HY := Lib.hid hy
          clear hy
          go_wp2
          refine bodyPost_ret (v := .agg y.cells) (results_cell_row rfl _ _ (w.heap.size + 1 + 1 + 1) 55 _ _ _ rfl (set8g HR1.out _ _ _ _ _ _ _ _) Tryd.underlying55 rfl (by kernel_rfl)) rfl ⟨by rw [HY.out, HXE.out], ?_⟩
          exact (((((((hB.setCell (by first | omega | (simp; done) | (simp; omega)) _).setCell (by first | omega | (simp; done) | (simp; omega)) _).setCell (by first | omega | (simp; done) | (simp; omega)) _).setCell (by first | omega | (simp; done) | (simp; omega)) _).setCell (by first | omega | (simp; done) | (simp; omega)) _).setCell (by first | omega | (simp; done) | (simp; omega)) _).setCell (by first | omega | (simp; done) | (simp; omega)) _).setCell (by first | omega | (simp; done) | (simp; omega)) _
end Go.Proofs.YtgjiicjbkmcecaaDoor
