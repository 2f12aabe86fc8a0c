import Derived.Test.YtgjiicjbkmcecaaDoorProg
import Derived.WalkKit
import Derived.WalkLawsBesides
import Derived.WalkSpells
namespace Go.Proofs.YtgjiicjbkmcecaaDoor
open Go.RowKit

def lifeOf (p : Int) : Int := if p = 1 then 600 else if p = 2 then 60 else if p = 3 then 120 else if p = 4 then 30 else if p = 5 then 120 else if p = 6 then 2000 else 0
def triesOf (p : Int) : Int := if p = 1 then 5 else if p = 2 then 5 else if p = 3 then 5 else if p = 4 then 3 else if p = 5 then 5 else if p = 6 then 5 else 0

set_option maxRecDepth 100000 in
set_option maxHeartbeats 800000 in
theorem of_any (p : Int) (w : World) :
    Calls Tryd.prog 18 #[.int .i64 p] w fun e w' => e = .returned (.agg #[.int .i64 (lifeOf p), .int .i64 (triesOf p)]) ∧ Below w.heap.size w w' := by
  by_cases hin : p < 0 ∨ 7 ≤ p
  · have e1 : lifeOf p = 0 := by unfold lifeOf; repeat' (split; omega)
                                 rfl
    have e2 : triesOf p = 0 := by unfold triesOf; repeat' (split; omega)
                                  rfl
    rw [e1, e2]
    clear e1 e2
    rcases hin with h | h
    · go_enter Tryd.func18, Tryd.ntmps18
      go_wp2
      exact bodyPost_ret (v := .agg #[.int .i64 0, .int .i64 0]) (by simp [results, Tryd.results18, go_sem]) rfl ⟨rfl, by (repeat (first | exact Below.refl _ _ | assumption | refine Below.drew ?_ | refine below_drewN ?_ _ | refine Below.alloc ?_ (by first | omega | (simp; done) | (simp; omega) | (simp at *; omega)) _ | refine Below.setCell ?_ (by first | omega | (simp; done) | (simp; omega)) _ | refine Below.trans ?_ (Below.mono (by assumption) (by first | omega | (simp; done) | (simp; omega) | (simp at *; omega)))))⟩
    · have h' : ¬ p < 0 := by omega
      go_enter Tryd.func18, Tryd.ntmps18
      go_wp2
      exact bodyPost_ret (v := .agg #[.int .i64 0, .int .i64 0]) (by simp [results, Tryd.results18, go_sem]) rfl ⟨rfl, by (repeat (first | exact Below.refl _ _ | assumption | refine Below.drew ?_ | refine below_drewN ?_ _ | refine Below.alloc ?_ (by first | omega | (simp; done) | (simp; omega) | (simp at *; omega)) _ | refine Below.setCell ?_ (by first | omega | (simp; done) | (simp; omega)) _ | refine Below.trans ?_ (Below.mono (by assumption) (by first | omega | (simp; done) | (simp; omega) | (simp at *; omega)))))⟩
  · have h0 : 0 ≤ p := by omega
    have h1 : p < 7 := by omega
    clear hin
    obtain rfl | rfl | rfl | rfl | rfl | rfl | rfl : p = 0 ∨ p = 1 ∨ p = 2 ∨ p = 3 ∨ p = 4 ∨ p = 5 ∨ p = 6 := by omega
    all_goals
      clear h0 h1
      go_enter Tryd.func18, Tryd.ntmps18
      go_wp2
    · exact bodyPost_ret (v := .agg #[.int .i64 0, .int .i64 0]) (by simp [results, Tryd.results18, go_sem]) rfl ⟨rfl, by (repeat (first | exact Below.refl _ _ | assumption | refine Below.drew ?_ | refine below_drewN ?_ _ | refine Below.alloc ?_ (by first | omega | (simp; done) | (simp; omega) | (simp at *; omega)) _ | refine Below.setCell ?_ (by first | omega | (simp; done) | (simp; omega)) _ | refine Below.trans ?_ (Below.mono (by assumption) (by first | omega | (simp; done) | (simp; omega) | (simp at *; omega)))))⟩
    · exact bodyPost_ret (v := .agg #[.int .i64 600, .int .i64 5]) (by simp [results, Tryd.results18, go_sem]) rfl ⟨rfl, by (repeat (first | exact Below.refl _ _ | assumption | refine Below.drew ?_ | refine below_drewN ?_ _ | refine Below.alloc ?_ (by first | omega | (simp; done) | (simp; omega) | (simp at *; omega)) _ | refine Below.setCell ?_ (by first | omega | (simp; done) | (simp; omega)) _ | refine Below.trans ?_ (Below.mono (by assumption) (by first | omega | (simp; done) | (simp; omega) | (simp at *; omega)))))⟩
    · exact bodyPost_ret (v := .agg #[.int .i64 60, .int .i64 5]) (by simp [results, Tryd.results18, go_sem]) rfl ⟨rfl, by (repeat (first | exact Below.refl _ _ | assumption | refine Below.drew ?_ | refine below_drewN ?_ _ | refine Below.alloc ?_ (by first | omega | (simp; done) | (simp; omega) | (simp at *; omega)) _ | refine Below.setCell ?_ (by first | omega | (simp; done) | (simp; omega)) _ | refine Below.trans ?_ (Below.mono (by assumption) (by first | omega | (simp; done) | (simp; omega) | (simp at *; omega)))))⟩
    · exact bodyPost_ret (v := .agg #[.int .i64 120, .int .i64 5]) (by simp [results, Tryd.results18, go_sem]) rfl ⟨rfl, by (repeat (first | exact Below.refl _ _ | assumption | refine Below.drew ?_ | refine below_drewN ?_ _ | refine Below.alloc ?_ (by first | omega | (simp; done) | (simp; omega) | (simp at *; omega)) _ | refine Below.setCell ?_ (by first | omega | (simp; done) | (simp; omega)) _ | refine Below.trans ?_ (Below.mono (by assumption) (by first | omega | (simp; done) | (simp; omega) | (simp at *; omega)))))⟩
    · exact bodyPost_ret (v := .agg #[.int .i64 30, .int .i64 3]) (by simp [results, Tryd.results18, go_sem]) rfl ⟨rfl, by (repeat (first | exact Below.refl _ _ | assumption | refine Below.drew ?_ | refine below_drewN ?_ _ | refine Below.alloc ?_ (by first | omega | (simp; done) | (simp; omega) | (simp at *; omega)) _ | refine Below.setCell ?_ (by first | omega | (simp; done) | (simp; omega)) _ | refine Below.trans ?_ (Below.mono (by assumption) (by first | omega | (simp; done) | (simp; omega) | (simp at *; omega)))))⟩
    · exact bodyPost_ret (v := .agg #[.int .i64 120, .int .i64 5]) (by simp [results, Tryd.results18, go_sem]) rfl ⟨rfl, by (repeat (first | exact Below.refl _ _ | assumption | refine Below.drew ?_ | refine below_drewN ?_ _ | refine Below.alloc ?_ (by first | omega | (simp; done) | (simp; omega) | (simp at *; omega)) _ | refine Below.setCell ?_ (by first | omega | (simp; done) | (simp; omega)) _ | refine Below.trans ?_ (Below.mono (by assumption) (by first | omega | (simp; done) | (simp; omega) | (simp at *; omega)))))⟩
    · exact bodyPost_ret (v := .agg #[.int .i64 2000, .int .i64 5]) (by simp [results, Tryd.results18, go_sem]) rfl ⟨rfl, by (repeat (first | exact Below.refl _ _ | assumption | refine Below.drew ?_ | refine below_drewN ?_ _ | refine Below.alloc ?_ (by first | omega | (simp; done) | (simp; omega) | (simp at *; omega)) _ | refine Below.setCell ?_ (by first | omega | (simp; done) | (simp; omega)) _ | refine Below.trans ?_ (Below.mono (by assumption) (by first | omega | (simp; done) | (simp; omega) | (simp at *; omega)))))⟩
end Go.Proofs.YtgjiicjbkmcecaaDoor
