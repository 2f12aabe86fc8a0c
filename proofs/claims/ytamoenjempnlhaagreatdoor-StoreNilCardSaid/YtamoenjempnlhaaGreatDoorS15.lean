import Derived.Test.YtamoenjempnlhaaGreatDoorS14
import Derived.Laws.Tables
namespace Go.Proofs.YtamoenjempnlhaaGreatDoor
open Go.RowKit
set_option maxRecDepth 100000
theorem below_setRow {B g : Nat} {a w : World} (h : Below B a w) (hg : B ≤ g) (cs : Array Value) : Below B a (w.setRow g cs) :=
  ⟨h.os, h.tape, h.output, by rw [setRow_size]; exact h.size, fun k hk => (setRow_other w g k cs (by omega)).trans (h.block k hk)⟩
/-- A row of sixteen numbers of 32 bits. -/
def tabOk (cs : Array Value) : Bool := cs.size == 16 && cs.all fun | .int .u32 x => decide (0 ≤ x ∧ x < 4294967296) | _ => false
theorem tabOk_at {cs : Array Value} (h : tabOk cs = true) (j : Nat) (hj : j < 16) : ∃ x : Int, cs[j]? = some (.int .u32 x) ∧ 0 ≤ x ∧ x < 4294967296 := by
  simp only [tabOk, Bool.and_eq_true, beq_iff_eq, Array.all_eq_true] at h
  obtain ⟨h1, h2⟩ := h
  have := h2 j (by omega)
  rw [Array.getElem?_eq_getElem (by omega)]
  split at this
  · rename_i x hx
    exact ⟨x, by rw [hx], by simpa using this⟩
  · cases this
theorem tabOk_one {cs : Array Value} (h : tabOk cs = true) : cs.all (·.oneCell') = true := by
  simp only [tabOk, Bool.and_eq_true, beq_iff_eq, Array.all_eq_true] at h ⊢
  intro i hi
  have := h.2 i hi
  split at this
  · rename_i x hx
    rw [hx]; rfl
  · cases this
theorem tabOk_size {cs : Array Value} (h : tabOk cs = true) : cs.size = 16 := by
  simp only [tabOk, Bool.and_eq_true, beq_iff_eq] at h
  exact h.1
set_option maxHeartbeats 1600000 in
theorem table_any (w : World) : Calls Tryz.prog 263 #[] w fun e w' => (∃ cs, e = .returned (.agg cs) ∧ tabOk cs = true) ∧ Below w.heap.size w w' := by
  go_enter Tryz.func263, Tryz.ntmps263
  go_wp2_with (first
    | (refine wpList_build rfl 323 _ rfl (by kernel_rfl) ?_; generalize hq : Option.getD _ _ = cs; have hok : tabOk cs = true := (by rw [← hq]; kernel_rfl); clear hq)
    | (refine wpList_store_row rfl 323 (.tmp 0) (.tmp 1) rfl _ cs rfl rfl 323 _ (block_new _ _ _ _ rfl) (by rw [tabOk_size hok]; kernel_rfl) (by rw [tabOk_size hok]; rfl) (tabOk_one hok) ?_)
    | fail)
  refine bodyPost_ret (results_cell_row rfl _ _ (w.heap.size) 323 _ _ _ rfl (setRow_heap _ _ _ _ _ _ (block_new _ _ _ _ rfl)) Tryz.underlying323 rfl (by rw [tabOk_size hok]; kernel_rfl)) rfl ⟨⟨_, rfl, hok⟩, ?_⟩
  exact below_setRow (by (repeat (first | exact Below.refl _ _ | assumption | refine Below.drew ?_ | refine below_drewN ?_ _ | refine Below.alloc ?_ (by first | omega | (simp; done) | (simp; omega) | (simp at *; omega)) _ | refine Below.setCell ?_ (by first | omega | (simp; done) | (simp; omega)) _ | refine Below.trans ?_ (Below.mono (by assumption) (by first | omega | (simp; done) | (simp; omega) | (simp at *; omega)))))) (Nat.le_refl _) _
theorem bits_u32_bd (op : BinOp) (x y : Int) : 0 ≤ bits op .u32 x y ∧ bits op .u32 x y < 4294967296 := by
  unfold bits
  rw [IntKind.wrap_u32]
  omega
theorem and15_u32 (n : Int) : ∃ k : Nat, k < 16 ∧ bits BinOp.and .u32 n 15 = (k : Int) := by
  have h : (BitVec.ofInt 32 15).toNat = 2 ^ 4 - 1 := by decide
  have key : (BitVec.ofInt 32 n &&& BitVec.ofInt 32 15).toNat = (n % ((2 ^ 32 : Nat) : Int)).toNat % 2 ^ 4 := by
    rw [BitVec.toNat_and, BitVec.toNat_ofInt, h, Nat.and_two_pow_sub_one_eq_mod]
  refine ⟨(n % ((2 ^ 32 : Nat) : Int)).toNat % 2 ^ 4, by omega, ?_⟩
  show IntKind.u32.wrap ((BitVec.ofInt 32 n &&& BitVec.ofInt 32 15).toNat : Nat) = _
  rw [key, IntKind.wrap_u32]
  omega
set_option maxHeartbeats 3200000 in
/-- Half a byte turns the register: it stays a number of 32 bits. -/
theorem half_any (T r : Nat) (x y : Int) (cs : Array Value) (w : World) (hT : w.heap[T]? = some (.cells cs 323 (0, 0))) (hr : w.heap[r]? = some (.cells #[.int .u32 y] 251 (0, 0))) (hok : tabOk cs = true) (hTr : T ≠ r) (hx0 : 0 ≤ x) (hx1 : x < 4294967296) (hy0 : 0 ≤ y) (hy1 : y < 4294967296) :
    Calls Tryz.prog 264 #[.int .u32 x, .pointer (some ⟨T, 0, none⟩), .pointer (some ⟨r, 0, none⟩)] w fun e w' => e = .returned (.tuple #[]) ∧ ∃ y', 0 ≤ y' ∧ y' < 4294967296 ∧ w' = (w.setCell ⟨r, 0, none⟩ (.int .u32 y')).drew := by
  have c0 : w.cell? ⟨r, 0, none⟩ = some (.int .u32 y) := (cell_of_block hr 0).trans rfl
  have f0 := free_of_block hr 0
  obtain ⟨k, hk16, hk⟩ := and15_u32 (bits BinOp.xor .u32 y x)
  obtain ⟨z, hz, hz0, hz1⟩ := tabOk_at hok k hk16
  have hcz : w.cell? ⟨T, k, none⟩ = some (.int .u32 z) := (cell_of_block hT k).trans hz
  have hcs := tabOk_size hok
  have HOK := Lib.hid hok
  have HTT := Lib.hid hT
  clear hok hT hz
  go_enter Tryz.func264, Tryz.ntmps264
  go_wp2_with fail
  go_region
  all_goals go_wp2
  all_goals go_end0
  all_goals exact ⟨rfl, _, (bits_u32_bd _ _ _).1, (bits_u32_bd _ _ _).2, rfl⟩
/-- The table T and the register R, of y, as they lie; below N all is as in w. -/
structure Reg (N T R : Nat) (cs : Array Value) (y : Int) (w W : World) : Prop where
  hT : W.heap[T]? = some (.cells cs 323 (0, 0))
  hR : W.heap[R]? = some (.cells #[.int .u32 y] 251 (0, 0))
  ok : tabOk cs = true
  ne : T ≠ R
  y0 : 0 ≤ y
  y1 : y < 4294967296
  NT : N ≤ T
  NR : N ≤ R
  below : Below N w W
theorem Reg.next {N T R : Nat} {cs : Array Value} {y y' : Int} {w W : World} (h : Reg N T R cs y w W) (h0 : 0 ≤ y') (h1 : y' < 4294967296) : Reg N T R cs y' w (W.setCell ⟨R, 0, none⟩ (.int .u32 y')).drew :=
  ⟨setCell_far h.hT h.ne 0 _, setCell_block h.hR 0 _, h.ok, h.ne, h0, h1, h.NT, h.NR, (h.below.setCell (p := ⟨R, 0, none⟩) h.NR _).drew⟩
theorem half_reg {N T R : Nat} {cs : Array Value} {y : Int} {w W : World} (h : Reg N T R cs y w W) (x : Int) (hx0 : 0 ≤ x) (hx1 : x < 4294967296) :
    Calls Tryz.prog 264 #[.int .u32 x, .pointer (some ⟨T, 0, none⟩), .pointer (some ⟨R, 0, none⟩)] W fun e w' => e = .returned (.tuple #[]) ∧ ∃ y', Reg N T R cs y' w w' := by
  refine (half_any T R x y cs W h.hT h.hR h.ok h.ne hx0 hx1 h.y0 h.y1).mono ?_
  rintro e w' ⟨rfl, y', h0, h1, rfl⟩
  exact ⟨rfl, y', h.next h0 h1⟩
set_option maxHeartbeats 3200000 in
theorem extend_any (x : Int) (s : ByteArray) (w : World) (hx0 : 0 ≤ x) (hx1 : x < 4294967296) (hs : s.size ≤ 100000) :
    Calls Tryz.prog 250 #[.int .u32 x, .string s] w fun e w' => (∃ y, e = .returned (.int .u32 y) ∧ 0 ≤ y ∧ y < 4294967296) ∧ Below w.heap.size w w' := by
  go_enter Tryz.func250, Tryz.ntmps250
  go_wp2_with (first
    | (go_at_call 263; refine (table_any _).mono ?_; rintro e w1 ⟨⟨cs, rfl, hok⟩, hb1⟩)
    | (refine wpList_store_row rfl 323 (.tmp 5) (.tmp 9) rfl _ cs rfl rfl 323 _ (block_new _ _ _ _ rfl) (by rw [tabOk_size hok]; kernel_rfl) (by rw [tabOk_size hok]; rfl) (tabOk_one hok) ?_)
    | fail)
  generalize hW0 : World.alloc (World.setRow _ _ _) _ = W0
  have hreg : Reg w.heap.size w1.heap.size (w1.heap.size + 1) cs (bits BinOp.xor .u32 x 4294967295) w W0 := by
    have hz := hb1.size
    rw [← hW0]
    refine ⟨block_old _ (setRow_heap _ _ _ _ _ _ (block_new _ _ _ _ rfl)) (by rw [setRow_size]; simp), block_new _ _ _ _ (by rw [setRow_size]; simp), hok, by omega, (bits_u32_bd _ _ _).1, (bits_u32_bd _ _ _).2, hz, by omega, ?_⟩
    exact (below_setRow (hb1.alloc hz _) hz _).alloc (by rw [setRow_size]; simp; omega) _
  have HREG := Lib.hid hreg
  clear hreg hW0 hok hb1
  go_loopg [15] s.size (fun g v wr => ∃ (j : Nat) (y : Int), g = s.size - j ∧ j ≤ s.size ∧ v = .int .i64 j ∧ Reg w.heap.size w1.heap.size (w1.heap.size + 1) cs y w wr)
  case atStart => exact ⟨0, _, rfl, by omega, rfl, HREG.out⟩
  case round =>
    obtain ⟨j, y, rfl, hj, rfl, hreg⟩ := hrel
    have HR := Lib.hid hreg
    have hcR : wr.cell? ⟨w1.heap.size + 1, 0, none⟩ = some (.int .u32 y) := (cell_of_block hreg.hR 0).trans rfl
    clear hreg HREG
    by_cases hjl : j < s.size
    · obtain ⟨c, hc⟩ : ∃ c : Nat, c = s[j].toNat := ⟨_, rfl⟩
      have hc256 : c < 256 := by rw [hc]; exact UInt8.toNat_lt _
      have hsj : s[j].toNat = c := hc.symm
      clear hc
      go_wp2_with (first
        | (go_at_call 264
           first
             | (have h1 := hr1
                refine (half_reg hr1 _ (by omega) (by omega)).mono ?_
                rintro e w3 ⟨rfl, y2, hr2⟩
                clear h1)
             | (refine (half_reg HR.out _ (by omega) (by omega)).mono ?_
                rintro e w2 ⟨rfl, y1, hr1⟩))
        | fail)
      go_roundg (s.size - (j + 1))
      case measure => omega
      case rel => exact ⟨j + 1, _, rfl, by omega, by go_num, hr2⟩
    · obtain rfl : j = s.size := by omega
      go_wp2
      go_ret
      exact ⟨⟨_, rfl, (bits_u32_bd _ _ _).1, (bits_u32_bd _ _ _).2⟩, HR.out.below⟩
end Go.Proofs.YtamoenjempnlhaaGreatDoor
