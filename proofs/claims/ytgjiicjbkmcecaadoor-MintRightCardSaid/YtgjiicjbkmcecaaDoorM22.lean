import Derived.Test.YtgjiicjbkmcecaaDoorM21
namespace Go.Proofs.YtgjiicjbkmcecaaDoor
open Go.RowKit
set_option maxRecDepth 100000
theorem triesOf_pos (p : Int) (h0 : 1 ≤ p) (h1 : p ≤ 6) : 0 < triesOf p := by
  obtain rfl | rfl | rfl | rfl | rfl | rfl : p = 1 ∨ p = 2 ∨ p = 3 ∨ p = 4 ∨ p = 5 ∨ p = 6 := by omega
  all_goals decide
theorem lifeOf_bd (p : Int) (h0 : 1 ≤ p) (h1 : p ≤ 6) : 0 < lifeOf p ∧ lifeOf p ≤ 2000 := by
  obtain rfl | rfl | rfl | rfl | rfl | rfl : p = 1 ∨ p = 2 ∨ p = 3 ∨ p = 4 ∨ p = 5 ∨ p = 6 := by omega
  all_goals decide
theorem plain_small (p : Int) (l : List UInt8) : ∀ b ∈ plainF p l, b < 128 := by
  intro b hb
  rw [UInt8.lt_iff_toNat_lt]
  rcases plainF_mem p l b hb with h | h
  · exact Nat.lt_of_le_of_lt h.2 (by decide)
  · exact Nat.lt_of_le_of_lt h.2 (by decide)
theorem tick_far {m : Option Nat} {k : Int} {w : World} {b : Nat} (h : ∀ B, m = some B → B ≠ b) : (tick m k w).heap[b]? = w.heap[b]? := by
  cases m with
  | none => rfl
  | some B => exact Below.heap_setCell _ _ _ _ (Ne.symm (h B rfl))
theorem mint_facts {b : Nat} {A W W9 Z : World} {v0 v1 v2 v3 v4 v5 x y : Value} {c : Array Value} {T : TypeId} (hl : b + 1 < A.heap.size) (hg : A.heap[b]? = some (.cells #[v0, v1, v2, v3, v4, v5] T (0, 0))) (hr : A.heap[b + 1]? = some (.cells c T (0, 0))) (hB : Below b Z A) (hb : Below A.heap.size A W)
    (h9 : W9 = (W.setCell ⟨b, 4, none⟩ x).setCell ⟨b, 5, none⟩ y ∨ W9 = (W.setCell ⟨b, 5, none⟩ y).setCell ⟨b, 4, none⟩ x) :
    W9.heap[b]? = some (.cells #[v0, v1, v2, v3, x, y] T (0, 0)) ∧ W9.heap[b + 1]? = some (.cells c T (0, 0)) ∧ Below b Z W9 := by
  have hg' := (hb.block b (by omega)).trans hg
  have hr' := (hb.block (b + 1) hl).trans hr
  have hB' : Below b Z W := hB.trans (hb.mono (by omega))
  rcases h9 with rfl | rfl
  · refine ⟨?_, setCell_far (setCell_far hr' (by omega) _ _) (by omega) _ _, (hB'.setCell (p := ⟨b, 4, none⟩) (Nat.le_refl _) _).setCell (p := ⟨b, 5, none⟩) (Nat.le_refl _) _⟩
    rw [setCell_block (setCell_block hg' 4 x) 5 y]
    simp
  · refine ⟨?_, setCell_far (setCell_far hr' (by omega) _ _) (by omega) _ _, (hB'.setCell (p := ⟨b, 5, none⟩) (Nat.le_refl _) _).setCell (p := ⟨b, 4, none⟩) (Nat.le_refl _) _⟩
    rw [setCell_block (setCell_block hg' 5 y) 4 x]
    simp
theorem set6g {w : World} {b : Nat} {t : TypeId} {a0 a1 a2 a3 a4 a5 : Value} (h : w.heap[b]? = some (.cells #[a0, a1, a2, a3, a4, a5] t (0, 0))) (v0 v1 v2 v3 v4 v5 : Value) :
    (((((((w.setCell ⟨b, 0, none⟩ v0).setCell ⟨b, 1, none⟩ v1).setCell ⟨b, 2, none⟩ v2).setCell ⟨b, 3, none⟩ v3).setCell ⟨b, 4, none⟩ v4).setCell ⟨b, 5, none⟩ v5)).heap[b]? = some (.cells #[v0, v1, v2, v3, v4, v5] t (0, 0)) := by
  have e := setCell_block (setCell_block (setCell_block (setCell_block (setCell_block (setCell_block h 0 v0) 1 v1) 2 v2) 3 v3) 4 v4) 5 v5
  rw [e]
  simp
set_option maxHeartbeats 12800000 in
theorem mint_any (m : Option Nat) (n acc p now : Int) (d : ByteArray) (w : World) (hm : holdsN m n w) (ha0 : 1 ≤ acc) (ha1 : acc ≤ 99) (hp0 : 1 ≤ p) (hp1 : p ≤ 6) (hn0 : 0 ≤ now) (hn1 : now < 549755813888) (hd : d.size = 10) (hb : Base w) :
    Calls Tryd.prog 5 #[mval m, .agg #[.string ⟨#[]⟩, .int .i64 acc, .int .i64 p, .string annS, .int .i64 0, .int .i64 0], .string d, .int .i64 now] w fun e w' =>
      e = .returned (.tuple #[.string ⟨(plainF p d.data.toList).toArray⟩, .agg #[.string (digestF p (plainF p d.data.toList)), .int .i64 acc, .int .i64 p, .string annS, .int .i64 (now + lifeOf p), .int .i64 (triesOf p)], .bool true]) ∧ Below w.heap.size (tick m (n + 1) w) w' := by
  obtain ⟨PL, hPL⟩ : ∃ PL, PL = plainF p d.data.toList := ⟨_, rfl⟩
  obtain ⟨P, hP⟩ : ∃ P : ByteArray, P = ⟨PL.toArray⟩ := ⟨_, rfl⟩
  have hplain := fun w1 (h : Below w.heap.size w w1) => plain_any p d w1 hp0 hp1 hd (hb.below h)
  rw [← hPL, ← hP] at hplain ⊢
  have hPL2 : PL = P.data.toList := by rw [hP]
  have hPs : P.size ≤ 1000000 := by
    rw [hP]; show PL.toArray.size ≤ _
    rw [List.size_toArray, hPL]
    have := plainF_length p d.data.toList hd
    omega
  have hdig := fun w1 (h : holdsN m n w1) => digest_any m n p P PL hPL2 w1 h (by omega) (by omega) hPs (by rw [hPL]; exact plain_small p _)
  obtain ⟨G, hG⟩ : ∃ G, G = digestF p PL := ⟨_, rfl⟩
  rw [← hG] at hdig ⊢
  have how := fun w1 (h : Below w.heap.size w w1) => owned_any ⟨#[]⟩ acc p 0 0 w1 ha0 ha1 hp0 hp1 (hb.max.below h)
  have htm := fun w => timely_any now w
  rw [show timelyOf now = true from decide_eq_true ⟨hn0, by omega⟩] at htm
  obtain ⟨q, hq⟩ : ∃ q, q = triesOf p := ⟨_, rfl⟩
  obtain ⟨lf, hlf⟩ : ∃ lf, lf = lifeOf p := ⟨_, rfl⟩
  have hlb := lifeOf_bd p hp0 hp1
  have htr := fun w => tries_any p w
  have hli := fun w => life_any p w
  rw [← hq] at htr ⊢
  rw [← hlf] at hli hlb ⊢
  have hck := fun w => clock_any now lf w (by omega) (by omega)
  rw [show clockOf now lf = now + lf by unfold clockOf; rw [if_neg (by omega), if_neg (by omega)]] at hck
  obtain ⟨S, hS⟩ : ∃ S : ByteArray, S = annS := ⟨_, rfl⟩
  rw [← hS] at how ⊢
  have HPL := Lib.hid hplain
  have HDG := Lib.hid hdig
  have HOW := Lib.hid how
  have HTM := Lib.hid htm
  have HTR := Lib.hid htr
  have HLI := Lib.hid hli
  have HCK := Lib.hid hck
  have HM := Lib.hid hm
  clear hplain hdig how htm htr hli hck hPL hP hPL2 hPs hG hq hlf hS hb hm hd
  go_enter Tryd.func5, Tryd.ntmps5
  go_wp2_with (first
    | (go_at_call 12; refine (HPL.out _ (by (repeat (first | exact Below.refl _ _ | assumption | refine Below.drew ?_ | refine below_drewN ?_ _ | refine Below.alloc ?_ (by first | omega | (simp; done) | (simp; omega) | (simp at *; omega)) _ | refine Below.setCell ?_ (by first | omega | (simp; done) | (simp; omega)) _ | refine Below.trans ?_ (Below.mono (by assumption) (by first | omega | (simp; done) | (simp; omega) | (simp at *; omega))))))).mono ?_; rintro e w1 ⟨rfl, hb1⟩; have hbw : Below w.heap.size w w1 := Below.trans (by (repeat (first | exact Below.refl _ _ | assumption | refine Below.drew ?_ | refine below_drewN ?_ _ | refine Below.alloc ?_ (by first | omega | (simp; done) | (simp; omega) | (simp at *; omega)) _ | refine Below.setCell ?_ (by first | omega | (simp; done) | (simp; omega)) _ | refine Below.trans ?_ (Below.mono (by assumption) (by first | omega | (simp; done) | (simp; omega) | (simp at *; omega)))))) (Below.mono hb1 (by simp; omega)); have hws := hbw.size; have hkeep := fun j => hb1.cell (p := ⟨w.heap.size, j, none⟩))
    | fail)
  have hga : (w1.heap[w.heap.size]? = some (.cells #[.string ⟨#[]⟩, .int .i64 acc, .int .i64 p, .string S, .int .i64 0, .int .i64 0] 25 (0, 0)) ∧ w1.heap[w.heap.size + 1]? = some (.cells #[.string ⟨#[]⟩, .int .i64 0, .int .i64 0, .string ⟨#[]⟩, .int .i64 0, .int .i64 0] 25 (0, 0))) := by
    refine ⟨(hb1.block _ (by simp; omega)).trans (block_old _ (block_new _ _ _ _ rfl) (by simp)), (hb1.block _ (by simp)).trans (block_new _ _ _ _ (by simp))⟩
  have hl1 : w.heap.size + 1 < w1.heap.size := lt_of_block' hga.2
  have HGA := Lib.hid hga
  clear hga hkeep hb1
  refine (HOW.out _ hbw).mono ?_
  rintro e w2 ⟨rfl, hb2⟩
  have hB2 : Below w.heap.size w w2 := hbw.trans (hb2.mono hws)
  have hg2 := (hb2.block _ (by omega)).trans HGA.out.1
  have hr2 := (hb2.block _ hl1).trans HGA.out.2
  have hm2 : holdsN m n w2 := holdsN_below HM.out hB2
  have hl2 : w.heap.size + 1 < w2.heap.size := lt_of_block' hr2
  have c2 : w2.cell? ⟨w.heap.size, 2, none⟩ = some (.int .i64 p) := (cell_of_block hg2 2).trans rfl
  have HG2 := Lib.hid hg2
  have HR2 := Lib.hid hr2
  have HB2 := Lib.hid hB2
  have HM2 := Lib.hid hm2
  clear hg2 hr2 hB2 hm2 hb2 hbw hws hl1 HGA
  go_wp2_with (first
    | (go_at_call 14; refine (HTM.out _).mono ?_; rintro e w3 ⟨rfl, rfl⟩)
    | fail)
  refine (HDG.out _ HM2.out).mono ?_
  rintro e w4 ⟨rfl, hb4⟩
  have hmB : ∀ B, m = some B → B < w.heap.size := fun B h => (HM.out B h).2.2.1
  have hz4 : w2.heap.size ≤ w4.heap.size := by have := hb4.size; rwa [size_tick] at this
  have hg4 := ((hb4.block w.heap.size (by omega)).trans (tick_far (fun B h => by have := hmB B h; omega))).trans HG2.out
  have hr4 := ((hb4.block (w.heap.size + 1) hl2).trans (tick_far (fun B h => by have := hmB B h; omega))).trans HR2.out
  have hB4 : Below w.heap.size (tick m (n + 1) w) w4 := (tick_of_below HB2.out).trans (hb4.mono HB2.out.size)
  have k0 : w4.cell? ⟨w.heap.size, 0, none⟩ = some (.string ⟨#[]⟩) := (cell_of_block hg4 0).trans rfl
  have kf : ∀ j, w4.frozen? ⟨w.heap.size, j, none⟩ = false := free_of_block hg4
  have hl4 : w.heap.size + 1 < w4.heap.size := lt_of_block' hr4
  have HG4 := Lib.hid hg4
  have HR4 := Lib.hid hr4
  have HB4 := Lib.hid hB4
  clear hg4 hr4 hB4 hb4 HG2 HR2 HB2 HM2 c2 hmB hz4 hl2
  go_wp2_with fail
  generalize hW5 : World.setCell _ _ _ = W5
  have hg5 : W5.heap[w.heap.size]? = some (.cells #[.string G, .int .i64 acc, .int .i64 p, .string S, .int .i64 0, .int .i64 0] 25 (0, 0)) := by
    rw [← hW5]; exact setCell_block HG4.out 0 _
  have hr5 : W5.heap[w.heap.size + 1]? = some (.cells #[.string ⟨#[]⟩, .int .i64 0, .int .i64 0, .string ⟨#[]⟩, .int .i64 0, .int .i64 0] 25 (0, 0)) := by
    rw [← hW5]; exact setCell_far HR4.out (by omega) 0 _
  have hB5 : Below w.heap.size (tick m (n + 1) w) W5 := by rw [← hW5]; exact HB4.out.setCell (p := ⟨w.heap.size, 0, none⟩) (Nat.le_refl _) _
  have hl5 : w.heap.size + 1 < W5.heap.size := lt_of_block' hr5
  have hS5 : W5.cell? ⟨w.heap.size, 2, none⟩ = some (.int .i64 p) ∧ W5.cell? ⟨w.heap.size, 4, none⟩ = some (.int .i64 0) ∧ W5.cell? ⟨w.heap.size, 5, none⟩ = some (.int .i64 0) := ⟨(cell_of_block hg5 2).trans rfl, (cell_of_block hg5 4).trans rfl, (cell_of_block hg5 5).trans rfl⟩
  obtain ⟨s2, s4, s5⟩ := hS5
  have sf : ∀ j, W5.frozen? ⟨w.heap.size, j, none⟩ = false := free_of_block hg5
  have HG5 := Lib.hid hg5
  have HR5 := Lib.hid hr5
  have HB5 := Lib.hid hB5
  clear hg5 hr5 hB5 hW5 k0 kf hl4 HG4 HR4 HB4
  go_region_with (first
    | (go_at_call 9; refine (HLI.out _).mono ?_; rintro e w6 ⟨rfl, hb6⟩; have hk6 := fun j => hb6.cell (p := ⟨w.heap.size, j, none⟩) (by first | exact Nat.lt_of_succ_lt hl5 | exact Nat.lt_of_lt_of_le (Nat.lt_of_succ_lt hl5) hs7 | exact Nat.lt_of_lt_of_le (Nat.lt_of_succ_lt hl5) hs6); have hf6 := fun j => hb6.frozen (p := ⟨w.heap.size, j, none⟩) (by first | exact Nat.lt_of_succ_lt hl5 | exact Nat.lt_of_lt_of_le (Nat.lt_of_succ_lt hl5) hs7 | exact Nat.lt_of_lt_of_le (Nat.lt_of_succ_lt hl5) hs6); have hs6 := hb6.size)
    | (go_at_call 16; refine (HTR.out _).mono ?_; rintro e w7 ⟨rfl, hb7⟩; have hk7 := fun j => hb7.cell (p := ⟨w.heap.size, j, none⟩) (by first | exact Nat.lt_of_succ_lt hl5 | exact Nat.lt_of_lt_of_le (Nat.lt_of_succ_lt hl5) hs7 | exact Nat.lt_of_lt_of_le (Nat.lt_of_succ_lt hl5) hs6); have hf7 := fun j => hb7.frozen (p := ⟨w.heap.size, j, none⟩) (by first | exact Nat.lt_of_succ_lt hl5 | exact Nat.lt_of_lt_of_le (Nat.lt_of_succ_lt hl5) hs7 | exact Nat.lt_of_lt_of_le (Nat.lt_of_succ_lt hl5) hs6); have hs7 := hb7.size)
    | (go_at_call 15; refine (HCK.out _).mono ?_; rintro e w8 ⟨rfl, rfl⟩)
    | fail)
  all_goals generalize hW9 : World.setCell _ _ _ = W9
  all_goals have hfacts : W9.heap[w.heap.size]? = some (.cells #[.string G, .int .i64 acc, .int .i64 p, .string S, .int .i64 (now + lf), .int .i64 q] 25 (0, 0)) ∧ W9.heap[w.heap.size + 1]? = some (.cells #[.string ⟨#[]⟩, .int .i64 0, .int .i64 0, .string ⟨#[]⟩, .int .i64 0, .int .i64 0] 25 (0, 0)) ∧ Below w.heap.size (tick m (n + 1) w) W9 := by rw [← hW9]; exact mint_facts hl5 HG5.out HR5.out HB5.out (((Below.refl W5.heap.size W5).drew.trans hb6).trans (hb7.mono hb6.size)) (Or.inl rfl)
  all_goals clear hW9 s2 s4 s5 sf hk6 hk7 hf6 hf7 hb6 hb7 hs6 hs7 HG5 HR5 HB5 hl5
  all_goals obtain ⟨hg, hr, hB⟩ := hfacts
  all_goals have e0 : W9.cell? ⟨w.heap.size, 0, none⟩ = some (.string G) := (cell_of_block hg 0).trans rfl
  all_goals have e1 : W9.cell? ⟨w.heap.size, 1, none⟩ = some (.int .i64 acc) := (cell_of_block hg 1).trans rfl
  all_goals have e2 : W9.cell? ⟨w.heap.size, 2, none⟩ = some (.int .i64 p) := (cell_of_block hg 2).trans rfl
  all_goals have e3 : W9.cell? ⟨w.heap.size, 3, none⟩ = some (.string S) := (cell_of_block hg 3).trans rfl
  all_goals have e4 : W9.cell? ⟨w.heap.size, 4, none⟩ = some (.int .i64 (now + lf)) := (cell_of_block hg 4).trans rfl
  all_goals have e5 : W9.cell? ⟨w.heap.size, 5, none⟩ = some (.int .i64 q) := (cell_of_block hg 5).trans rfl
  all_goals have q0 : W9.cell? ⟨w.heap.size + 1, 0, none⟩ = some (.string ⟨#[]⟩) := (cell_of_block hr 0).trans rfl
  all_goals have q1 : W9.cell? ⟨w.heap.size + 1, 1, none⟩ = some (.int .i64 0) := (cell_of_block hr 1).trans rfl
  all_goals have q2 : W9.cell? ⟨w.heap.size + 1, 2, none⟩ = some (.int .i64 0) := (cell_of_block hr 2).trans rfl
  all_goals have q3 : W9.cell? ⟨w.heap.size + 1, 3, none⟩ = some (.string ⟨#[]⟩) := (cell_of_block hr 3).trans rfl
  all_goals have q4 : W9.cell? ⟨w.heap.size + 1, 4, none⟩ = some (.int .i64 0) := (cell_of_block hr 4).trans rfl
  all_goals have q5 : W9.cell? ⟨w.heap.size + 1, 5, none⟩ = some (.int .i64 0) := (cell_of_block hr 5).trans rfl
  all_goals have qf : ∀ j, W9.frozen? ⟨w.heap.size + 1, j, none⟩ = false := free_of_block hr
  all_goals have HB9 := Lib.hid hB
  all_goals have HR9 := Lib.hid hr
  all_goals clear hg hr hB
  all_goals go_wp2_with fail
  all_goals go_region
  all_goals go_wp2
  all_goals generalize hWX : World.setCell _ _ _ = WX
  all_goals have hx : WX.heap[w.heap.size + 1]? = some (.cells #[.string G, .int .i64 acc, .int .i64 p, .string S, .int .i64 (now + lf), .int .i64 q] 25 (0, 0)) := by rw [← hWX]; exact set6g HR9.out _ _ _ _ _ _
  all_goals have hbx : Below w.heap.size (tick m (n + 1) w) WX := by rw [← hWX]; exact (((((HB9.out.setCell (p := ⟨w.heap.size + 1, 0, none⟩) (Nat.le_succ _) _).setCell (p := ⟨w.heap.size + 1, 1, none⟩) (Nat.le_succ _) _).setCell (p := ⟨w.heap.size + 1, 2, none⟩) (Nat.le_succ _) _).setCell (p := ⟨w.heap.size + 1, 3, none⟩) (Nat.le_succ _) _).setCell (p := ⟨w.heap.size + 1, 4, none⟩) (Nat.le_succ _) _).setCell (p := ⟨w.heap.size + 1, 5, none⟩) (Nat.le_succ _) _
  all_goals have y0 : WX.cell? ⟨w.heap.size + 1, 0, none⟩ = some (.string G) := (cell_of_block hx 0).trans rfl
  all_goals have y1 : WX.cell? ⟨w.heap.size + 1, 1, none⟩ = some (.int .i64 acc) := (cell_of_block hx 1).trans rfl
  all_goals have y2 : WX.cell? ⟨w.heap.size + 1, 2, none⟩ = some (.int .i64 p) := (cell_of_block hx 2).trans rfl
  all_goals have y3 : WX.cell? ⟨w.heap.size + 1, 3, none⟩ = some (.string S) := (cell_of_block hx 3).trans rfl
  all_goals have y4 : WX.cell? ⟨w.heap.size + 1, 4, none⟩ = some (.int .i64 (now + lf)) := (cell_of_block hx 4).trans rfl
  all_goals have y5 : WX.cell? ⟨w.heap.size + 1, 5, none⟩ = some (.int .i64 q) := (cell_of_block hx 5).trans rfl
  all_goals exact bodyPost_ret (v := .tuple #[.string P, .agg #[.string G, .int .i64 acc, .int .i64 p, .string S, .int .i64 (now + lf), .int .i64 q], .bool true]) (by simp [results, Tryd.results5, go_sem, y0, y1, y2, y3, y4, y5]) rfl ⟨rfl, hbx.drew⟩
end Go.Proofs.YtgjiicjbkmcecaaDoor
