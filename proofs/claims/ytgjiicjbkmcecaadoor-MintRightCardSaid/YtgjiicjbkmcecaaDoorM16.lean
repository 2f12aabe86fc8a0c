import Derived.Test.YtgjiicjbkmcecaaDoorM15
namespace Go.Proofs.YtgjiicjbkmcecaaDoor
open Go.RowKit
set_option maxRecDepth 100000
def digitB (x : Int) : Bool := decide (48 ≤ x) && decide (x ≤ 57)
def letterB (x : Int) : Bool := decide (97 ≤ x) && decide (x ≤ 122) || digitB x
set_option maxHeartbeats 1600000 in
theorem digit_any (x : Int) (w : World) :
    Calls Tryd.prog 49 #[.int .i32 x] w fun e w' => e = .returned (.bool (digitB x)) ∧ w' = w := by
  unfold digitB
  go_enter Tryd.func49, Tryd.ntmps49
  by_cases h1 : 48 ≤ x <;> by_cases h2 : x ≤ 57
  all_goals (go_wp2; go_ret; exact ⟨by simp [h1, h2], rfl⟩)
set_option maxHeartbeats 1600000 in
theorem letter_any (x : Int) (w : World) :
    Calls Tryd.prog 63 #[.int .i32 x] w fun e w' => e = .returned (.bool (letterB x)) ∧ w' = w := by
  unfold letterB
  go_enter Tryd.func63, Tryd.ntmps63
  by_cases h1 : 97 ≤ x <;> by_cases h2 : x ≤ 122
  all_goals (go_wp2_with (go_at_call 49; refine (digit_any x _).mono ?_; rintro e w1 ⟨rfl, rfl⟩); go_ret; exact ⟨by first | (simp [h1, h2]; done) | (simp [h1, h2]; intros; omega), rfl⟩)
def nameB (x : Int) : Bool := letterB x || decide (x = 95) || decide (x = 45) || decide (x = 46)
def hostB (x : Int) : Bool := letterB x || decide (x = 45)
set_option maxHeartbeats 1600000 in
theorem name1_any (x : Int) (w : World) :
    Calls Tryd.prog 62 #[.int .i32 x] w fun e w' => e = .returned (.bool (nameB x)) ∧ w' = w := by
  unfold nameB
  obtain ⟨b, hb⟩ : ∃ b, b = letterB x := ⟨_, rfl⟩
  have hl := letter_any x
  rw [← hb] at hl ⊢
  have HL := Lib.hid hl
  clear hb hl
  by_cases h1 : x = 95
  · subst h1
    go_enter Tryd.func62, Tryd.ntmps62
    cases b
    all_goals (go_wp2_with (go_at_call 63; refine (HL.out _).mono ?_; rintro e w1 ⟨rfl, rfl⟩); go_ret; exact ⟨by first | rfl | simp, rfl⟩)
  · by_cases h2 : x = 45
    · subst h2
      go_enter Tryd.func62, Tryd.ntmps62
      cases b
      all_goals (go_wp2_with (go_at_call 63; refine (HL.out _).mono ?_; rintro e w1 ⟨rfl, rfl⟩); go_ret; exact ⟨by first | rfl | simp, rfl⟩)
    · by_cases h3 : x = 46
      · subst h3
        go_enter Tryd.func62, Tryd.ntmps62
        cases b
        all_goals (go_wp2_with (go_at_call 63; refine (HL.out _).mono ?_; rintro e w1 ⟨rfl, rfl⟩); go_ret; exact ⟨by first | rfl | simp, rfl⟩)
      · have d1 : decide (x = 95) = false := decide_eq_false h1
        have e1 : (x == 95) = false := by simpa using h1
        have d2 : decide (x = 45) = false := decide_eq_false h2
        have e2 : (x == 45) = false := by simpa using h2
        have d3 : decide (x = 46) = false := decide_eq_false h3
        have e3 : (x == 46) = false := by simpa using h3
        rw [d1, d2, d3]
        clear h1 h2 h3
        go_enter Tryd.func62, Tryd.ntmps62
        cases b
        all_goals (go_wp2_with (go_at_call 63; refine (HL.out _).mono ?_; rintro e w1 ⟨rfl, rfl⟩); go_ret; exact ⟨by first | rfl | simp, rfl⟩)
set_option maxHeartbeats 1600000 in
theorem host1_any (x : Int) (w : World) :
    Calls Tryd.prog 65 #[.int .i32 x] w fun e w' => e = .returned (.bool (hostB x)) ∧ w' = w := by
  unfold hostB
  obtain ⟨b, hb⟩ : ∃ b, b = letterB x := ⟨_, rfl⟩
  have hl := letter_any x
  rw [← hb] at hl ⊢
  have HL := Lib.hid hl
  clear hb hl
  by_cases h2 : x = 45
  · subst h2
    go_enter Tryd.func65, Tryd.ntmps65
    cases b
    all_goals (go_wp2_with (go_at_call 63; refine (HL.out _).mono ?_; rintro e w1 ⟨rfl, rfl⟩); go_ret; exact ⟨by first | rfl | simp, rfl⟩)
  · have d2 : decide (x = 45) = false := decide_eq_false h2
    have e2 : (x == 45) = false := by simpa using h2
    rw [d2]
    clear h2
    go_enter Tryd.func65, Tryd.ntmps65
    cases b
    all_goals (go_wp2_with (go_at_call 63; refine (HL.out _).mono ?_; rintro e w1 ⟨rfl, rfl⟩); go_ret; exact ⟨by first | rfl | simp, rfl⟩)
/-- A closure that tells of a rune, and turns nothing. -/
def Tells (g : Nat) (q : Int → Bool) : Prop := (∀ args w, (callFunc g args).run Tryd.prog w = .ok (.enter g args) w) ∧ ∀ (x : Int) (w : World), Calls Tryd.prog g #[.int .i32 x] w fun e w' => e = .returned (.bool (q x)) ∧ w' = w
theorem tells_name : Tells 62 nameB := ⟨enters_of Tryd.func62 (by kernel_rfl) rfl, name1_any⟩
theorem tells_host : Tells 65 hostB := ⟨enters_of Tryd.func65 (by kernel_rfl) rfl, host1_any⟩
theorem tells_digit : Tells 49 digitB := ⟨enters_of Tryd.func49 (by kernel_rfl) rfl, digit_any⟩
set_option maxHeartbeats 1600000 in
theorem only1_any (g B : Nat) (q : Int → Bool) (hT : Tells g q) (x : Int) (w : World) (hc : w.cell? ⟨B, 0, none⟩ = some (.func (.func g) #[] #[])) :
    Calls Tryd.prog 67 #[.int .i32 x, .pointer (some ⟨B, 0, none⟩)] w fun e w' => e = .returned (.bool (!q x)) ∧ w' = w := by
  obtain ⟨eg, hg⟩ := hT
  have HG := Lib.hid hg
  clear hg
  go_enter Tryd.func67, Tryd.ntmps67
  go_wp2_with fail
  refine (HG.out x w).mono ?_
  rintro e w1 ⟨rfl, rfl⟩
  go_wp2
  go_ret
  exact ⟨rfl, rfl⟩
set_option maxHeartbeats 1600000 in
theorem only_any (g : Nat) (q : Int → Bool) (hT : Tells g q) (s : ByteArray) (w : World) :
    Calls Tryd.prog 48 #[.string s, .func (.func g) #[] #[]] w fun e w' => e = .returned (.bool (decide (Lib.idxFunc (fun x => !q (x : Int)) true s < 0))) ∧ Below w.heap.size w w' := by
  have hpred : ∀ W, W.cell? ⟨w.heap.size, 0, none⟩ = some (.func (.func g) #[] #[]) → w.heap.size < W.heap.size → PredGrows Tryd.prog 67 #[.pointer (some ⟨w.heap.size, 0, none⟩)] (fun x => !q (x : Int)) W := by
    intro W hc hlt W1 x _ hb
    exact (only1_any g w.heap.size q hT x W1 ((hb.cell (p := ⟨w.heap.size, 0, none⟩) hlt).trans hc)).mono fun e w' h => ⟨h.1, h.2 ▸ Below.refl _ _⟩
  have eg1 := enters_of (P := Tryd.prog) Tryd.func67 (by kernel_rfl) rfl
  have hcall : ∀ W, W.cell? ⟨w.heap.size, 0, none⟩ = some (.func (.func g) #[] #[]) → w.heap.size < W.heap.size → Calls Tryd.prog 66 #[.string s, .func (.func 67) #[] #[.pointer (some ⟨w.heap.size, 0, none⟩)]] W fun e w' => e = .returned (.int .i64 (Lib.idxFunc (fun x => !q (x : Int)) true s)) ∧ Below W.heap.size W w' := fun W hc hlt =>
    Tryd.strings_IndexFunc_grows 67 _ eg1 (fun x => !q (x : Int)) s W (hpred W hc hlt)
  obtain ⟨r, hr⟩ : ∃ r, r = Lib.idxFunc (fun x => !q (x : Int)) true s := ⟨_, rfl⟩
  rw [← hr] at hcall ⊢
  have HCALL := Lib.hid hcall
  clear hcall hpred hr eg1 hT
  go_enter Tryd.func48, Tryd.ntmps48
  go_wp2_with (go_at_call 66; refine (HCALL.out _ ((cell_of_block (block_new _ _ _ _ rfl) 0).trans rfl) (by simp)).mono ?_; rintro e w1 ⟨rfl, hb1⟩)
  go_ret
  exact ⟨rfl, ((Below.refl _ w).alloc (Nat.le_refl _) _).trans (hb1.mono (by simp))⟩
end Go.Proofs.YtgjiicjbkmcecaaDoor
