import Derived.Test.YtgjiicjbkmcecaaDoorM3
namespace Go.Proofs.YtgjiicjbkmcecaaDoor
open Go.RowKit
/-- A number turned to the right, as the walk spells it. -/
def rr (x k : Int) : Int := bits BinOp.or IntKind.u32 (x * 2 ^ (32 - k).toNat % 4294967296) (x / 2 ^ k.toNat)
theorem and31 (k : Int) (h0 : 1 ≤ k) (h1 : k ≤ 31) : bits BinOp.and IntKind.u64 (IntKind.u64.wrap (-k)) 31 = 32 - k := by
  have h : ∀ n : Fin 31, bits BinOp.and IntKind.u64 (IntKind.u64.wrap (-((n.val : Int) + 1))) 31 = 32 - ((n.val : Int) + 1) := by decide
  have := h ⟨(k - 1).toNat, by omega⟩
  simp only at this
  rw [show (((k - 1).toNat : Nat) : Int) + 1 = k by omega] at this
  exact this
set_option maxRecDepth 100000
set_option maxHeartbeats 800000 in
theorem rotl_any (x k : Int) (w : World) (h0 : 0 ≤ x) (h1 : x < 4294967296) (hk0 : 1 ≤ k) (hk1 : k ≤ 31) :
    Calls Tryd.prog 52 #[.int .u32 x, .int .i64 (-k)] w fun e w' => e = .returned (.int .u32 (rr x k)) ∧ w' = w := by
  have hb := and31 k hk0 hk1
  have e32 : 32 - (32 - k) = k := by omega
  have e31 : IntKind.u64.wrap (32 - (32 - k)) = k := by rw [e32, IntKind.wrap_u64]; omega
  go_enter Tryd.func52, Tryd.ntmps52
  go_wp2
  go_ret
  exact ⟨rfl, rfl⟩
set_option maxHeartbeats 800000 in
theorem right_any (x k : Int) (w : World) (h0 : 0 ≤ x) (h1 : x < 4294967296) (hk0 : 1 ≤ k) (hk1 : k ≤ 31) :
    Calls Tryd.prog 37 #[.int .u32 x, .int .i64 k] w fun e w' => e = .returned (.int .u32 (rr x k)) ∧ w' = w := by
  go_enter Tryd.func37, Tryd.ntmps37
  go_wp2_with (go_at_call 52; refine (rotl_any x k _ h0 h1 hk0 hk1).mono ?_; rintro e w1 ⟨rfl, rfl⟩)
  go_ret
  exact ⟨rfl, rfl⟩
theorem bits_u32_bd (op : BinOp) (x y : Int) : 0 ≤ bits op .u32 x y ∧ bits op .u32 x y < 4294967296 := by
  unfold bits
  rw [IntKind.wrap_u32]
  omega
theorem rr_bd (x k : Int) : 0 ≤ rr x k ∧ rr x k < 4294967296 := bits_u32_bd _ _ _
end Go.Proofs.YtgjiicjbkmcecaaDoor
