import Derived.Test.YtgjiicjbkmcecaaDoorM1
import Derived.Test.YtgjiicjbkmcecaaDoorLib
namespace Go.Proofs.YtgjiicjbkmcecaaDoor
open Go.RowKit

theorem ret_int {k : IntKind} {a b : Int} (h : a = b) : Ending.returned (.int k a) = .returned (.int k b) := by rw [h]
theorem ret_bool {a b : Bool} (h : a = b) : Ending.returned (.bool a) = .returned (.bool b) := by rw [h]

theorem field_kind0 (a b : Value) (w : World) : (Instr.field 51 (.agg #[a, b]) 0).run Tryd.prog w = .ok a w := by kernel_rfl
theorem field_kind1 (a b : Value) (w : World) : (Instr.field 51 (.agg #[a, b]) 1).run Tryd.prog w = .ok b w := by kernel_rfl
set_option maxRecDepth 100000
set_option maxHeartbeats 800000 in
theorem life_any (p : Int) (w : World) : Calls Tryd.prog 9 #[.int .i64 p] w fun e w' => e = .returned (.int .i64 (lifeOf p)) ∧ Below w.heap.size w w' := by
  have hf := field_kind0
  go_enter Tryd.func9, Tryd.ntmps9
  go_wp2_with (go_at_call 18; refine (of_any p _).mono ?_; rintro e w1 ⟨rfl, hb⟩)
  go_ret
  exact ⟨rfl, hb⟩
set_option maxHeartbeats 800000 in
theorem tries_any (p : Int) (w : World) : Calls Tryd.prog 16 #[.int .i64 p] w fun e w' => e = .returned (.int .i64 (triesOf p)) ∧ Below w.heap.size w w' := by
  have hf := field_kind1
  go_enter Tryd.func16, Tryd.ntmps16
  go_wp2_with (go_at_call 18; refine (of_any p _).mono ?_; rintro e w1 ⟨rfl, hb⟩)
  go_ret
  exact ⟨rfl, hb⟩

def clockOf (now ticks : Int) : Int := if now < 0 ∨ ticks < 0 then 0 else if 1099511627776 < now + ticks then 1099511627776 else now + ticks
set_option maxHeartbeats 800000 in
theorem clock_any (now ticks : Int) (w : World) (hn : now ≤ 9223372036854775807) (ht : ticks ≤ 9223372036854775807) :
    Calls Tryd.prog 15 #[.int .i64 now, .int .i64 ticks] w fun e w' => e = .returned (.int .i64 (clockOf now ticks)) ∧ w = w' := by
  go_enter Tryd.func15, Tryd.ntmps15
  go_wp2
  all_goals go_ret
  all_goals exact ⟨ret_int (by unfold clockOf; (repeat' split) <;> omega), rfl⟩

def timelyOf (t : Int) : Bool := decide (0 ≤ t ∧ t ≤ 1099511627776)
set_option maxHeartbeats 800000 in
theorem timely_any (t : Int) (w : World) : Calls Tryd.prog 14 #[.int .i64 t] w fun e w' => e = .returned (.bool (timelyOf t)) ∧ w = w' := by
  go_enter Tryd.func14, Tryd.ntmps14
  go_wp2
  all_goals go_ret
  all_goals exact ⟨ret_bool (by unfold timelyOf; simp; omega), rfl⟩
end Go.Proofs.YtgjiicjbkmcecaaDoor
