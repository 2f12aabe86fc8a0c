import Derived.Test.YtgjiicjbkmcecaaDoorM24
import Derived.Deep.DeepCutAuto
import Derived.Deep.RegionHeld3
namespace Go.Proofs.YtgjiicjbkmcecaaDoor
open Go.RowKit
set_option maxRecDepth 100000
set_option maxHeartbeats 6400000 in
theorem mintRight_any (pu : Int) (s : ByteArray) (q0 q1 : Int) (w : World) (hbase : Base w) (hpu0 : -9223372036854775808 ≤ pu) (hpu1 : pu ≤ 9223372036854775807) :
    Calls Tryd.prog 3 #[.int .i64 pu, .string s, .agg #[.int .i64 q0, .int .i64 q1]] w fun e w' => e = .returned (.bool true) ∧ Below w.heap.size w w' := by
  have ha39 := and39_i64 q0
  have ha63 := and63_i64 q1
  have haw := fun w1 (h : Below w.heap.size w w1) => awake_any w1 (hbase.below h)
  have HAW := Lib.hid haw
  clear haw
  go_enter Tryd.func3, Tryd.ntmps3
  go_wp2_with fail
  generalize hW0 : (World.alloc _ _) = W0
  have hg0 : W0.heap[w.heap.size]? = some (.cells #[.int .i64 q0, .int .i64 q1] 22 (0, 0)) := by rw [← hW0]; exact block_new _ _ _ _ rfl
  have hb0 : Below w.heap.size w W0 := by rw [← hW0]; exact (Below.refl _ w).alloc (Nat.le_refl _) _
  have hs0 := lt_of_block' hg0
  refine (HAW.out _ hb0).mono ?_
  rintro e w1 ⟨rfl, hb1⟩
  have hg1 := (hb1.block w.heap.size hs0).trans hg0
  have hB1 : Below w.heap.size w w1 := hb0.trans (hb1.mono hb0.size)
  have hs1 := lt_of_block' hg1
  have c0 : w1.cell? ⟨w.heap.size, 0, none⟩ = some (.int .i64 q0) := (cell_of_block hg1 0).trans rfl
  have c1 : w1.cell? ⟨w.heap.size, 1, none⟩ = some (.int .i64 q1) := (cell_of_block hg1 1).trans rfl
  have HB1 := Lib.hid hB1
  clear hW0 hg0 hb0 hb1 hg1 hB1 hs0
  go_upto_region 6 with fail
  obtain ⟨p, hp⟩ : ∃ p, p = wrap64 (1 + (wrap64 (pu.tmod 6 + 6)).tmod 6) := ⟨_, rfl⟩
  obtain ⟨acc, hacc⟩ : ∃ acc, acc = 1 + q1 % 64 := ⟨_, rfl⟩
  obtain ⟨now, hnow⟩ : ∃ now, now = q0 % 549755813888 := ⟨_, rfl⟩
  obtain ⟨S, hS⟩ : ∃ S, S = annS := ⟨_, rfl⟩
  rw [← hp, ← hacc, ← hnow, show (⟨#[97, 110, 110, 64, 98, 46, 111, 114, 103]⟩ : ByteArray) = S from hS.symm]
  obtain ⟨r, hr⟩ : ∃ r, r = pu.tmod 6 := ⟨_, rfl⟩
  have hr6 := rem6 pu
  rw [← hr] at hr6 hp
  have hw6 : wrap64 (r + 6) = r + 6 := by unfold wrap64; omega
  have hr7 := rem6' (r + 6) (by omega)
  rw [hw6] at hp
  rw [show wrap64 (1 + (r + 6).tmod 6) = 1 + (r + 6).tmod 6 by unfold wrap64; omega] at hp
  have hp0 : 1 ≤ p := by omega
  have hp1 : p ≤ 6 := by omega
  have ha0 : 1 ≤ acc := by omega
  have ha1 : acc ≤ 64 := by omega
  have hn0 : 0 ≤ now := by omega
  have hn1 : now < 549755813888 := by omega
  generalize (r + 6).tmod 6 = r6 at hp hr7
  generalize hW2 : World.alloc _ _ = W2
  have hgb : W2.heap[w1.heap.size]? = some (.cells #[.string ⟨#[]⟩, .int .i64 acc, .int .i64 p, .string S, .int .i64 0, .int .i64 0] 25 (0, 0)) := by
    rw [← hW2]; exact block_old _ (block_new _ _ _ _ rfl) (by simp)
  have hgm : W2.heap[w1.heap.size + 1]? = some (.cells #[.int .i64 0] 33 (0, 0)) := by
    rw [← hW2]; exact block_new _ _ _ _ (by simp)
  have hB2 : Below w.heap.size w W2 := by
    rw [← hW2]; exact (HB1.out.alloc (by omega) _).alloc (by simp; omega) _
  have hs2 := lt_of_block' hgm
  have hm2 : holdsN (some (w1.heap.size + 1)) 0 W2 := by
    intro B hB
    cases hB
    exact ⟨(cell_of_block hgm 0).trans rfl, free_of_block hgm 0, hs2, by decide, by decide⟩
  obtain ⟨D, hD⟩ : ∃ D, D = padS s := ⟨_, rfl⟩
  have hDs : D.size = 10 := by rw [hD]; exact padS_size s
  have hdr := fun w => draw_any s w
  rw [← hD] at hdr
  have hmi := fun wx (hm : holdsN (some (w1.heap.size + 1)) 0 wx) (hb : Base wx) => mint_any (some (w1.heap.size + 1)) 0 acc p now D wx hm ha0 (by omega) hp0 hp1 hn0 hn1 hDs hb
  obtain ⟨PL, hPL⟩ : ∃ PL, PL = plainF p D.data.toList := ⟨_, rfl⟩
  have hPm : ∀ b ∈ PL, plainB b := by rw [hPL]; exact plainF_mem p _
  have hPn : PL.length ≤ 30 := by rw [hPL]; exact plainF_length p _ hDs
  obtain ⟨P, hP⟩ : ∃ P : ByteArray, P = ⟨PL.toArray⟩ := ⟨_, rfl⟩
  obtain ⟨G, hG⟩ : ∃ G, G = digestF p PL := ⟨_, rfl⟩
  obtain ⟨lf, hlf⟩ : ∃ lf, lf = lifeOf p := ⟨_, rfl⟩
  obtain ⟨q, hq⟩ : ∃ q, q = triesOf p := ⟨_, rfl⟩
  rw [← hPL, ← hP, ← hG, ← hlf, ← hq, ← hS] at hmi
  have hlb := lifeOf_bd p hp0 hp1
  rw [← hlf] at hlb
  have hri := fun wx (hb : MaxCell wx) => right_of G acc p (now + lf) wx (by rw [hG]; exact digestF_size _ _) ha0 (by omega) hp0 hp1 (by omega) (by omega) hb
  rw [← hq, ← hS] at hri
  have hli := fun wx => life_any p wx
  rw [← hlf] at hli
  have HRI := Lib.hid hri
  have HP := Lib.hid hP
  have HG := Lib.hid hG
  have HPM := Lib.hid hPm
  have HLI := Lib.hid hli
  clear hri hli
  have hcb : ∀ j, W2.cell? ⟨w1.heap.size, j, none⟩ = (#[.string ⟨#[]⟩, .int .i64 acc, .int .i64 p, .string S, .int .i64 0, .int .i64 0] : Array Value)[j]? := cell_of_block hgb
  have HB2 := Lib.hid hB2
  have HM2 := Lib.hid hm2
  have HGB := Lib.hid hgb
  have HGM := Lib.hid hgm
  have HDR := Lib.hid hdr
  have HMI := Lib.hid hmi
  clear hB2 hm2 hgb hgm hdr hmi hW2 hD hPL hS hcb ha39 ha63 hp hacc hnow hr hlf hq hP hG hPm
  have k0 : W2.cell? ⟨w1.heap.size, 0, none⟩ = some (.string ⟨#[]⟩) := (cell_of_block HGB.out 0).trans rfl
  have k1 : W2.cell? ⟨w1.heap.size, 1, none⟩ = some (.int .i64 acc) := (cell_of_block HGB.out 1).trans rfl
  have k2 : W2.cell? ⟨w1.heap.size, 2, none⟩ = some (.int .i64 p) := (cell_of_block HGB.out 2).trans rfl
  have k3 : W2.cell? ⟨w1.heap.size, 3, none⟩ = some (.string S) := (cell_of_block HGB.out 3).trans rfl
  have k4 : W2.cell? ⟨w1.heap.size, 4, none⟩ = some (.int .i64 0) := (cell_of_block HGB.out 4).trans rfl
  have k5 : W2.cell? ⟨w1.heap.size, 5, none⟩ = some (.int .i64 0) := (cell_of_block HGB.out 5).trans rfl
  have hl2 : w1.heap.size < W2.heap.size := by omega
  go_cut [12, 13, 14] from 36 to 45 (fun a b c wx => a = .string P ∧ c = .bool true ∧ ∃ B, b = .pointer (some ⟨B, 0, none⟩) ∧ wx.heap[B]? = some (.cells #[.string G, .int .i64 acc, .int .i64 p, .string S, .int .i64 (now + lf), .int .i64 q] 25 (0, 0)) ∧ wx.heap[w1.heap.size]? = some (.cells #[.string ⟨#[]⟩, .int .i64 acc, .int .i64 p, .string S, .int .i64 0, .int .i64 0] 25 (0, 0)) ∧ wx.heap[w1.heap.size + 1]? = some (.cells #[.int .i64 1] 33 (0, 0)) ∧ Below w.heap.size w wx)
  case first =>
    go_region_with (first
      | (go_at_call 6
         refine (HDR.out _).mono ?_
         rintro e w3 ⟨rfl, hb3⟩
         have hB3 : Below W2.heap.size W2 w3 := Below.trans (by (repeat (first | exact Below.refl _ _ | assumption | refine Below.drew ?_ | refine below_drewN ?_ _ | refine Below.alloc ?_ (by first | omega | (simp; done) | (simp; omega) | (simp at *; omega)) _ | refine Below.setCell ?_ (by first | omega | (simp; done) | (simp; omega)) _ | refine Below.trans ?_ (Below.mono (by assumption) (by first | omega | (simp; done) | (simp; omega) | (simp at *; omega)))))) (Below.mono hb3 (by first | omega | (simp; done) | (simp; omega)))
         have hs3 := hB3.size
         have hl3 : w1.heap.size < w3.heap.size := Nat.lt_of_lt_of_le hl2 hs3
         have z0 : w3.cell? ⟨w1.heap.size, 0, none⟩ = some (.string ⟨#[]⟩) := (hB3.cell (p := ⟨w1.heap.size, 0, none⟩) hl2).trans k0
         have z1 : w3.cell? ⟨w1.heap.size, 1, none⟩ = some (.int .i64 acc) := (hB3.cell (p := ⟨w1.heap.size, 1, none⟩) hl2).trans k1
         have z2 : w3.cell? ⟨w1.heap.size, 2, none⟩ = some (.int .i64 p) := (hB3.cell (p := ⟨w1.heap.size, 2, none⟩) hl2).trans k2
         have z3 : w3.cell? ⟨w1.heap.size, 3, none⟩ = some (.string S) := (hB3.cell (p := ⟨w1.heap.size, 3, none⟩) hl2).trans k3
         have z4 : w3.cell? ⟨w1.heap.size, 4, none⟩ = some (.int .i64 0) := (hB3.cell (p := ⟨w1.heap.size, 4, none⟩) hl2).trans k4
         have z5 : w3.cell? ⟨w1.heap.size, 5, none⟩ = some (.int .i64 0) := (hB3.cell (p := ⟨w1.heap.size, 5, none⟩) hl2).trans k5)
      | (go_at_call 5
         refine (HMI.out _ (holdsN_below HM2.out (by (repeat (first | exact Below.refl _ _ | assumption | refine Below.drew ?_ | refine below_drewN ?_ _ | refine Below.alloc ?_ (by first | omega | (simp; done) | (simp; omega) | (simp at *; omega)) _ | refine Below.setCell ?_ (by first | omega | (simp; done) | (simp; omega)) _ | refine Below.trans ?_ (Below.mono (by assumption) (by first | omega | (simp; done) | (simp; omega) | (simp at *; omega))))))) (hbase.below (HB2.out.trans (Below.mono (show Below W2.heap.size W2 _ by (repeat (first | exact Below.refl _ _ | assumption | refine Below.drew ?_ | refine below_drewN ?_ _ | refine Below.alloc ?_ (by first | omega | (simp; done) | (simp; omega) | (simp at *; omega)) _ | refine Below.setCell ?_ (by first | omega | (simp; done) | (simp; omega)) _ | refine Below.trans ?_ (Below.mono (by assumption) (by first | omega | (simp; done) | (simp; omega) | (simp at *; omega)))))) HB2.out.size)))).mono ?_
         rintro e w4 ⟨rfl, hb4⟩
         have hs4 := hb4.size
         rw [size_tick] at hs4
         first
            | (have hx : w4.heap[W2.heap.size]? = some (.cells #[.string ⟨#[]⟩, .int .i64 0, .int .i64 0, .string ⟨#[]⟩, .int .i64 0, .int .i64 0] 25 (0, 0)) := (hb4.block _ (by have := hb3.size; simp at this ⊢; omega)).trans ((tick_far (fun B h => by cases h; omega)).trans ((hb3.block _ (by simp)).trans (block_new _ _ _ _ (by simp))))
               have y0 : w4.cell? ⟨W2.heap.size, 0, none⟩ = some (.string ⟨#[]⟩) := (cell_of_block hx 0).trans rfl
               have y1 : w4.cell? ⟨W2.heap.size, 1, none⟩ = some (.int .i64 0) := (cell_of_block hx 1).trans rfl
               have y2 : w4.cell? ⟨W2.heap.size, 2, none⟩ = some (.int .i64 0) := (cell_of_block hx 2).trans rfl
               have y3 : w4.cell? ⟨W2.heap.size, 3, none⟩ = some (.string ⟨#[]⟩) := (cell_of_block hx 3).trans rfl
               have y4 : w4.cell? ⟨W2.heap.size, 4, none⟩ = some (.int .i64 0) := (cell_of_block hx 4).trans rfl
               have y5 : w4.cell? ⟨W2.heap.size, 5, none⟩ = some (.int .i64 0) := (cell_of_block hx 5).trans rfl
               have yf : ∀ j, w4.frozen? ⟨W2.heap.size, j, none⟩ = false := free_of_block hx
               have HX := Lib.hid hx
               clear hx)
            | (have hx : w4.heap[w3.heap.size]? = some (.cells #[.string ⟨#[]⟩, .int .i64 0, .int .i64 0, .string ⟨#[]⟩, .int .i64 0, .int .i64 0] 25 (0, 0)) := (hb4.block _ (by simp)).trans ((tick_far (fun B h => by cases h; omega)).trans (block_new _ _ _ _ rfl))
               have y0 : w4.cell? ⟨w3.heap.size, 0, none⟩ = some (.string ⟨#[]⟩) := (cell_of_block hx 0).trans rfl
               have y1 : w4.cell? ⟨w3.heap.size, 1, none⟩ = some (.int .i64 0) := (cell_of_block hx 1).trans rfl
               have y2 : w4.cell? ⟨w3.heap.size, 2, none⟩ = some (.int .i64 0) := (cell_of_block hx 2).trans rfl
               have y3 : w4.cell? ⟨w3.heap.size, 3, none⟩ = some (.string ⟨#[]⟩) := (cell_of_block hx 3).trans rfl
               have y4 : w4.cell? ⟨w3.heap.size, 4, none⟩ = some (.int .i64 0) := (cell_of_block hx 4).trans rfl
               have y5 : w4.cell? ⟨w3.heap.size, 5, none⟩ = some (.int .i64 0) := (cell_of_block hx 5).trans rfl
               have yf : ∀ j, w4.frozen? ⟨w3.heap.size, j, none⟩ = false := free_of_block hx
               have HX := Lib.hid hx
               clear hx)
            | skip)
      | fail)
    all_goals (go_wp2_with fail)
    all_goals go_meet
    all_goals refine ⟨rfl, rfl, _, rfl, ?_⟩
    all_goals have hF := mr_facts HGM.out HGB.out (by omega) (show Below W2.heap.size W2 _ by (repeat (first | exact Below.refl _ _ | assumption | refine Below.drew ?_ | refine below_drewN ?_ _ | refine Below.alloc ?_ (by first | omega | (simp; done) | (simp; omega) | (simp at *; omega)) _ | refine Below.setCell ?_ (by first | omega | (simp; done) | (simp; omega)) _ | refine Below.trans ?_ (Below.mono (by assumption) (by first | omega | (simp; done) | (simp; omega) | (simp at *; omega)))))) hb4 HB2.out (by omega)
    all_goals first
      | (generalize hW9 : World.setCell _ _ _ = W9; exact fin_set hF HX.out (by omega) (by omega) (by omega) _ _ _ _ _ _ W9 hW9.symm)
      | (generalize hW9 : World.alloc _ _ = W9; exact fin_alloc hF hF.2.2.size W9 hW9.symm)
  case rest =>
    obtain ⟨rfl, rfl, B3, rfl, hg3, hgb3, hgm3, hB⟩ := hcut
    clear k0 k1 k2 k3 k4 k5 HMI HDR HM2 HGB HGM HB2 HB1 c0 c1 HAW hs1 hs2 hl2
    have hS3 : ((wc.cell? ⟨B3, 0, none⟩ = some (.string G) ∧ wc.cell? ⟨B3, 1, none⟩ = some (.int .i64 acc) ∧ wc.cell? ⟨B3, 2, none⟩ = some (.int .i64 p) ∧ wc.cell? ⟨B3, 3, none⟩ = some (.string S) ∧ wc.cell? ⟨B3, 4, none⟩ = some (.int .i64 (now + lf)) ∧ wc.cell? ⟨B3, 5, none⟩ = some (.int .i64 q)) ∧ wc.cell? ⟨w1.heap.size, 1, none⟩ = some (.int .i64 acc) ∧ wc.cell? ⟨w1.heap.size, 3, none⟩ = some (.string S) ∧ wc.cell? ⟨w1.heap.size + 1, 0, none⟩ = some (.int .i64 1) ∧ Below w.heap.size w wc ∧ w.heap.size ≤ wc.heap.size ∧ B3 < wc.heap.size ∧ w1.heap.size < wc.heap.size ∧ w1.heap.size + 1 < wc.heap.size) := by
      refine ⟨⟨(cell_of_block hg3 0).trans rfl, (cell_of_block hg3 1).trans rfl, (cell_of_block hg3 2).trans rfl, (cell_of_block hg3 3).trans rfl, (cell_of_block hg3 4).trans rfl, (cell_of_block hg3 5).trans rfl⟩, (cell_of_block hgb3 1).trans rfl, (cell_of_block hgb3 3).trans rfl, (cell_of_block hgm3 0).trans rfl, hB, hB.size, lt_of_block' hg3, lt_of_block' hgb3, lt_of_block' hgm3⟩
    clear hg3 hgb3 hgm3 hB
    go_upto_region 7 with fail
    go_cut [86] from 46 to 85 (fun v W => v = .bool false ∧ ((W.cell? ⟨B3, 0, none⟩ = some (.string G) ∧ W.cell? ⟨B3, 1, none⟩ = some (.int .i64 acc) ∧ W.cell? ⟨B3, 2, none⟩ = some (.int .i64 p) ∧ W.cell? ⟨B3, 3, none⟩ = some (.string S) ∧ W.cell? ⟨B3, 4, none⟩ = some (.int .i64 (now + lf)) ∧ W.cell? ⟨B3, 5, none⟩ = some (.int .i64 q)) ∧ W.cell? ⟨w1.heap.size, 1, none⟩ = some (.int .i64 acc) ∧ W.cell? ⟨w1.heap.size, 3, none⟩ = some (.string S) ∧ W.cell? ⟨w1.heap.size + 1, 0, none⟩ = some (.int .i64 1) ∧ Below w.heap.size w W ∧ w.heap.size ≤ W.heap.size ∧ B3 < W.heap.size ∧ w1.heap.size < W.heap.size ∧ w1.heap.size + 1 < W.heap.size))
    case first =>
      have hwr : IntKind.i64.wrap (now + lf) = now + lf := by rw [IntKind.wrap_i64]; omega
      go_region_held3 (fun W => ((W.cell? ⟨B3, 0, none⟩ = some (.string G) ∧ W.cell? ⟨B3, 1, none⟩ = some (.int .i64 acc) ∧ W.cell? ⟨B3, 2, none⟩ = some (.int .i64 p) ∧ W.cell? ⟨B3, 3, none⟩ = some (.string S) ∧ W.cell? ⟨B3, 4, none⟩ = some (.int .i64 (now + lf)) ∧ W.cell? ⟨B3, 5, none⟩ = some (.int .i64 q)) ∧ W.cell? ⟨w1.heap.size, 1, none⟩ = some (.int .i64 acc) ∧ W.cell? ⟨w1.heap.size, 3, none⟩ = some (.string S) ∧ W.cell? ⟨w1.heap.size + 1, 0, none⟩ = some (.int .i64 1) ∧ Below w.heap.size w W ∧ w.heap.size ≤ W.heap.size ∧ B3 < W.heap.size ∧ w1.heap.size < W.heap.size ∧ w1.heap.size + 1 < W.heap.size))
        (first | exact hS3 | exact keep9 hb4 (by assumption) | exact keep9 (Below.refl _ _).drew hS3 | assumption)
        (first
          | (go_at_call 7; refine (HRI.out _ (hbase.max.below (keep9 (Below.refl _ _).drew hS3).2.2.2.2.1)).mono ?_; rintro e w4 ⟨rfl, hb4⟩)
          | (go_at_call 8; refine (count_some _ 1 _ (by first | assumption | exact (keep9 (Below.refl _ _) (by assumption)).2.2.2.1)).mono ?_; rintro e w5 ⟨rfl, rfl⟩)
          | (go_at_call 9; refine (HLI.out _).mono ?_; rintro e w4 ⟨rfl, hb4⟩))
      all_goals go_wp2_with fail
      all_goals go_meet
      all_goals exact ⟨rfl, by assumption⟩
    case rest =>
      obtain ⟨rfl, hS4⟩ := hcut
      obtain ⟨⟨kG, _, _, _, _, _⟩, _, _, _, hBw, hNw, hlB, _, _⟩ := hS4
      clear hS3 HRI HLI hlb
      have hPP : P.data.toList = PL := by rw [HP.out]
      have hPs : P.size = PL.length := by rw [HP.out]; rfl
      have HPP := Lib.hid hPP
      have hPi : (P.size : Int) = PL.length := by rw [hPs]
      have HPS := Lib.hid hPs
      clear hPP hPs
      go_wp2_with fail
      go_loopg [15, 16, 17] PL.length (fun g a b c wr => ∃ j : Nat, g = PL.length - j ∧ j ≤ PL.length ∧ a = .string (typedS PL j) ∧ b = .int .i64 j ∧ Below wc.heap.size wc wr)
      case atStart => exact ⟨0, rfl, by omega, rfl, rfl, Below.refl _ _⟩
      case round =>
        obtain ⟨j, rfl, hj, rfl, rfl, hb'⟩ := hrel
        by_cases hjl : j < PL.length
        · have hjs : j < P.size := by have := HPS.out; omega
          go_upto_region 14 with fail
          have hpj : P[j] = PL.getD j 0 := by
            rw [List.getD_eq_getElem?_getD, List.getElem?_eq_getElem hjl]
            have := HPP.out
            subst this
            rfl
          rw [hpj]
          have hnx := typedS_next PL j hjl
          obtain ⟨c, hc⟩ : ∃ c : Nat, c = (PL.getD j 0).toNat := ⟨_, rfl⟩
          have hc256 : c < 256 := by rw [hc]; exact UInt8.toNat_lt _
          rw [← hc] at hnx ⊢
          obtain ⟨T, hT⟩ : ∃ T, T = typedS PL j := ⟨_, rfl⟩
          have hts : T.size ≤ 60 := by
            rw [hT]; show (typedL (PL.take j)).toArray.size ≤ 60
            rw [List.size_toArray, typedL_length, List.length_take]; omega
          have htb : ∀ q, (T ++ byteS q).size ≤ 61 := fun q => by rw [ByteArray.size_append, show (byteS q).size = 1 from rfl]; omega
          have hbs : ∀ q, (byteS q).size = 1 := fun _ => rfl
          rw [← hT] at hnx ⊢
          have hu : upI c = (if 97 ≤ c ∧ c ≤ 122 then (c : Int) - 32 else c) := rfl
          by_cases hlet : 97 ≤ c ∧ c ≤ 122
          · rw [if_pos hlet] at hu
            rw [hu] at hnx
            have HNX := Lib.hid hnx
            have h97 : (97 : Int) ≤ c := by omega
            have h122 : (c : Int) ≤ 122 := by omega
            have d1 : decide ((97 : Int) ≤ c) = true := by simpa using h97
            have d2 : decide ((c : Int) ≤ 122) = true := by simpa using h122
            have hcv := fun (W : World) (g : Nat) (h : W.cell? ⟨g, 0, none⟩ = some (.int .u8 ((c : Int) - 32))) => conv_byte W g ((c : Int) - 32) (by omega) (by omega) h
            have hwc : IntKind.u8.wrap ((c : Int) - 32) = (c : Int) - 32 := by rw [IntKind.wrap_u8]; omega
            clear hu hc hpj hT hnx hlet
            go_wp2
            go_roundg (PL.length - (j + 1))
            case measure => omega
            case rel => exact ⟨j + 1, rfl, by omega, by rw [← HNX.out], by go_num, hb'.alloc hb'.size _⟩
          · rw [if_neg hlet] at hu
            rw [hu] at hnx
            have HNX := Lib.hid hnx
            have hcv := fun (W : World) (g : Nat) (h : W.cell? ⟨g, 0, none⟩ = some (.int .u8 (c : Int))) => conv_byte W g (c : Int) (by omega) (by omega) h
            clear hu hc hpj hT hnx
            by_cases h97 : 97 ≤ c
            · have d1 : decide ((97 : Int) ≤ c) = true := by simp; omega
              have d2 : decide ((c : Int) ≤ 122) = false := by simp; omega
              go_wp2
              go_roundg (PL.length - (j + 1))
              case measure => omega
              case rel => exact ⟨j + 1, rfl, by omega, by rw [← HNX.out], by go_num, hb'.alloc hb'.size _⟩
            · have d1 : decide ((97 : Int) ≤ c) = false := by simp; omega
              go_wp2
              go_roundg (PL.length - (j + 1))
              case measure => omega
              case rel => exact ⟨j + 1, rfl, by omega, by rw [← HNX.out], by go_num, hb'.alloc hb'.size _⟩
        · obtain rfl : j = PL.length := by omega
          have hnl : ¬ ((PL.length : Int) < P.size) := by omega
          obtain ⟨TY, hTY⟩ : ∃ TY, TY = typedS PL PL.length := ⟨_, rfl⟩
          have hTl : TY.data.toList = typedL PL := by rw [hTY]; show (typedL (PL.take PL.length)) = _; rw [List.take_length]
          have hTs : TY.size ≤ 60 := by
            have : TY.size = (typedL PL).length := by rw [← hTl]; rfl
            rw [this, typedL_length]; omega
          rw [← hTY]
          have hd1 := fun p2 w (h0 : 0 ≤ p2) (h1 : p2 < 256) => digest_none p2 P PL HPP.out.symm w h0 h1 (by omega) (plainB_small HPM.out)
          have hd2 := fun w => digest_none p P PL HPP.out.symm w (by omega) (by omega) (by omega) (plainB_small HPM.out)
          rw [← HG.out] at hd2
          have hd3 := fun w => digest_none p TY (typedL PL) hTl.symm w (by omega) (by omega) (by omega) (typed_small PL HPM.out)
          rw [digestF_typed p PL HPM.out, ← HG.out] at hd3
          have hsm := fun bk w h0 h1 hb => sum2 bk (byteS p) P w h0 h1 hb (by rw [show (byteS p).size = 1 from rfl]; omega)
          rw [digestF_plain p P PL HP.out HPM.out, ← HG.out] at hsm
          have hr2 := rem6' p (by omega)
          have hG2 := fun p2 => digestF_size p2 PL
          obtain ⟨dg, hdg⟩ : ∃ dg : Int → ByteArray, dg = fun p2 => digestF p2 PL := ⟨_, rfl⟩
          have hG3 : ∀ p2, (dg p2).size = 32 := by rw [hdg]; exact hG2
          have hd1' : ∀ p2 w (h0 : 0 ≤ p2) (h1 : p2 < 256), Calls Tryd.prog 10 #[.pointer none, .int .i64 p2, .string P] w fun e w' => e = .returned (.string (dg p2)) ∧ Below w.heap.size w w' := by rw [hdg]; exact hd1
          have HD1 := Lib.hid hd1'
          have hdd : ∀ s, (s = P ∨ s = TY) → ∀ w, Calls Tryd.prog 10 #[.pointer none, .int .i64 p, .string s] w fun e w' => e = .returned (.string G) ∧ Below w.heap.size w w' := by
            rintro s (rfl | rfl)
            · exact hd2
            · exact hd3
          have HDD := Lib.hid hdd
          have HSM := Lib.hid hsm
          have hw : IntKind.u8.wrap p = p := by rw [IntKind.wrap_u8]; omega
          have hconv := fun (W : World) (g : Nat) (h : W.cell? ⟨g, 0, none⟩ = some (.int .u8 p)) => conv_byte W g p (by omega) (by omega) h
          clear hd1 hd1' hd2 hd3 hdd hsm hdg hG2 hTY hTl
          go_upto_region 18 with (first
            | (go_at_call 10; refine (HD1.out _ _ (by omega) (by omega)).mono ?_; rintro e w3 ⟨rfl, hb3⟩)
            | fail)
          obtain ⟨X2, hX2⟩ : ∃ X2, X2 = dg (1 + p % 6) := ⟨_, rfl⟩
          have hXs : X2.size = 32 := by rw [hX2]; exact hG3 _
          rw [← hX2]
          have hB3 : Below wc.heap.size wc w3 := hb'.trans (hb3.mono hb'.size)
          have hS5 := keep3 hB3 ⟨kG, hBw, hNw, hlB⟩
          clear hX2 hb' hb3 hB3 kG hBw hNw hlB HD1 hG3
          refine wp_region_noPanic ?_
          refine wp_region_held_drew (S := (fun W => (W.cell? ⟨B3, 0, none⟩ = some (.string G) ∧ Below w.heap.size w W ∧ w.heap.size ≤ W.heap.size ∧ B3 < W.heap.size))) (by kernel_rfl) (keep3 (Below.refl _ _).drew hS5) (fun hHeld => ?_)
          refine wpAnyH_take (i := 0) (oi := _) (v := ?_) rfl (by kernel_rfl) (by kernel_rfl) (by kernel_rfl) (fun _ _ _ h => h) (Or.inl ⟨by rfl, ?_⟩) (by assumption) ?_
          rotate_left
          · (intro w hSw; (try dsimp only at hSw); go_simp; try with_reducible rfl)
          try simp only [Act.put, List.getElem_toArray, List.getElem_cons_zero, List.getElem_cons_succ, List.setIfInBounds_toArray, List.set_cons_zero, List.set_cons_succ]
          refine wpAnyH_take (i := 1) (oi := _) (v := ?_) rfl (by kernel_rfl) (by kernel_rfl) (by kernel_rfl) (fun _ _ _ h => h) (Or.inl ⟨by rfl, ?_⟩) (by assumption) ?_
          rotate_left
          · (intro w hSw; (try dsimp only at hSw); go_simp; try with_reducible rfl)
          try simp only [Act.put, List.getElem_toArray, List.getElem_cons_zero, List.getElem_cons_succ, List.setIfInBounds_toArray, List.set_cons_zero, List.set_cons_succ]
          refine wpAnyH_take (i := 2) (oi := _) (v := ?_) rfl (by kernel_rfl) (by kernel_rfl) (by kernel_rfl) (fun _ _ _ h => h) (Or.inl ⟨by rfl, ?_⟩) (by assumption) ?_
          rotate_left
          · (intro w hSw; (try dsimp only at hSw); go_simp; try with_reducible rfl)
          try simp only [Act.put, List.getElem_toArray, List.getElem_cons_zero, List.getElem_cons_succ, List.setIfInBounds_toArray, List.set_cons_zero, List.set_cons_succ]
          refine wpAnyH_take (i := 3) (oi := _) (v := ?_) rfl (by kernel_rfl) (by kernel_rfl) (by kernel_rfl) (fun _ _ _ h => h) (Or.inl ⟨by rfl, ?_⟩) (by assumption) ?_
          rotate_left
          · (intro w hSw; (try dsimp only at hSw); go_simp; try with_reducible rfl)
          try simp only [Act.put, List.getElem_toArray, List.getElem_cons_zero, List.getElem_cons_succ, List.setIfInBounds_toArray, List.set_cons_zero, List.set_cons_succ]
          refine wpAnyH_take (i := 5) (oi := _) (v := ?_) rfl (by kernel_rfl) (by kernel_rfl) (by kernel_rfl) (fun _ _ _ h => h) (Or.inl ⟨by rfl, ?_⟩) (by assumption) ?_
          rotate_left
          · (intro w hSw; (try dsimp only at hSw); go_simp; try with_reducible rfl)
          try simp only [Act.put, List.getElem_toArray, List.getElem_cons_zero, List.getElem_cons_succ, List.setIfInBounds_toArray, List.set_cons_zero, List.set_cons_succ]
          refine wpAnyH_take (i := 6) (oi := _) (v := ?_) rfl (by kernel_rfl) (by kernel_rfl) (by kernel_rfl) (fun _ _ _ h => h) (Or.inl ⟨by rfl, ?_⟩) (by assumption) ?_
          rotate_left
          · (intro w hSw; (try dsimp only at hSw); go_simp; try with_reducible rfl)
          try simp only [Act.put, List.getElem_toArray, List.getElem_cons_zero, List.getElem_cons_succ, List.setIfInBounds_toArray, List.set_cons_zero, List.set_cons_succ]
          refine wpAnyH_ready (rs := [4]) (by kernel_rfl) (by simp) ?_
          refine AllReadyH.cons (o := _) rfl (fun K hK => ?_) ?_
          · go_simp
            go_at_call 10
            refine (HDD.out _ (by first | exact Or.inl rfl | exact Or.inr rfl) _).mono ?_
            rintro e w5 ⟨rfl, hb5⟩
            refine hK.out _ _ ?_ (fun hHeld => ?_)
            · exact keep3 hb5 (by assumption)
            clear hK K
            try simp only [Act.put, List.getElem_toArray, List.getElem_cons_zero, List.getElem_cons_succ, List.setIfInBounds_toArray, List.set_cons_zero, List.set_cons_succ]
            refine wpAnyH_take (i := 7) (oi := _) (v := ?_) rfl (by kernel_rfl) (by kernel_rfl) (by kernel_rfl) (fun _ _ _ h => h) (Or.inl ⟨by rfl, ?_⟩) (by assumption) ?_
            rotate_left
            · (intro w hSw; (try dsimp only at hSw); go_simp; try with_reducible rfl)
            try simp only [Act.put, List.getElem_toArray, List.getElem_cons_zero, List.getElem_cons_succ, List.setIfInBounds_toArray, List.set_cons_zero, List.set_cons_succ]
            refine wpAnyH_take (i := 8) (oi := _) (v := ?_) rfl (by kernel_rfl) (by kernel_rfl) (by kernel_rfl) (fun _ _ _ h => h) (Or.inl ⟨by rfl, ?_⟩) (by assumption) ?_
            rotate_left
            · (intro w hSw; (try dsimp only at hSw); go_simp; try with_reducible rfl)
            try simp only [Act.put, List.getElem_toArray, List.getElem_cons_zero, List.getElem_cons_succ, List.setIfInBounds_toArray, List.set_cons_zero, List.set_cons_succ]
            refine wpAnyH_take (i := 9) (oi := _) (v := ?_) rfl (by kernel_rfl) (by kernel_rfl) (by kernel_rfl) (fun _ _ _ h => h) (Or.inl ⟨by rfl, ?_⟩) (by assumption) ?_
            rotate_left
            · (intro w hSw; (try dsimp only at hSw); go_simp; try with_reducible rfl)
            try simp only [Act.put, List.getElem_toArray, List.getElem_cons_zero, List.getElem_cons_succ, List.setIfInBounds_toArray, List.set_cons_zero, List.set_cons_succ]
            refine wpAnyH_take (i := 10) (oi := _) (v := ?_) rfl (by kernel_rfl) (by kernel_rfl) (by kernel_rfl) (fun _ _ _ h => h) (Or.inl ⟨by rfl, ?_⟩) (by assumption) ?_
            rotate_left
            · (intro w hSw; (try dsimp only at hSw); go_simp; try with_reducible rfl)
            try simp only [Act.put, List.getElem_toArray, List.getElem_cons_zero, List.getElem_cons_succ, List.setIfInBounds_toArray, List.set_cons_zero, List.set_cons_succ]
            refine wpAnyH_take (i := 11) (oi := _) (v := ?_) rfl (by kernel_rfl) (by kernel_rfl) (by kernel_rfl) (fun _ _ _ h => h) (Or.inl ⟨by rfl, ?_⟩) (by assumption) ?_
            rotate_left
            · (intro w hSw; (try dsimp only at hSw); go_simp; try with_reducible rfl)
            try simp only [Act.put, List.getElem_toArray, List.getElem_cons_zero, List.getElem_cons_succ, List.setIfInBounds_toArray, List.set_cons_zero, List.set_cons_succ]
            refine wpAnyH_take (i := 13) (oi := _) (v := ?_) rfl (by kernel_rfl) (by kernel_rfl) (by kernel_rfl) (fun _ _ _ h => h) (Or.inl ⟨by rfl, ?_⟩) (by assumption) ?_
            rotate_left
            · (intro w hSw; (try dsimp only at hSw); go_simp; try with_reducible rfl)
            try simp only [Act.put, List.getElem_toArray, List.getElem_cons_zero, List.getElem_cons_succ, List.setIfInBounds_toArray, List.set_cons_zero, List.set_cons_succ]
            refine wpAnyH_take (i := 14) (oi := _) (v := ?_) rfl (by kernel_rfl) (by kernel_rfl) (by kernel_rfl) (fun _ _ _ h => h) (Or.inl ⟨by rfl, ?_⟩) (by assumption) ?_
            rotate_left
            · (intro w hSw; (try dsimp only at hSw); go_simp; try with_reducible rfl)
            try simp only [Act.put, List.getElem_toArray, List.getElem_cons_zero, List.getElem_cons_succ, List.setIfInBounds_toArray, List.set_cons_zero, List.set_cons_succ]
            refine wpAnyH_ready (rs := [12]) (by kernel_rfl) (by simp) ?_
            refine AllReadyH.cons (o := _) rfl (fun K hK => ?_) ?_
            · go_simp
              go_at_call 10
              refine (HDD.out _ (by first | exact Or.inl rfl | exact Or.inr rfl) _).mono ?_
              rintro e w6 ⟨rfl, hb6⟩
              refine hK.out _ _ ?_ (fun hHeld => ?_)
              · exact keep3 hb6 (by assumption)
              clear hK K
              try simp only [Act.put, List.getElem_toArray, List.getElem_cons_zero, List.getElem_cons_succ, List.setIfInBounds_toArray, List.set_cons_zero, List.set_cons_succ]
              refine wpAnyH_take (i := 15) (oi := _) (v := ?_) rfl (by kernel_rfl) (by kernel_rfl) (by kernel_rfl) (fun _ _ _ h => h) (Or.inl ⟨by rfl, ?_⟩) (by assumption) ?_
              rotate_left
              · (intro w hSw; (try dsimp only at hSw); go_simp; try with_reducible rfl)
              try simp only [Act.put, List.getElem_toArray, List.getElem_cons_zero, List.getElem_cons_succ, List.setIfInBounds_toArray, List.set_cons_zero, List.set_cons_succ]
              refine wpAnyH_take (i := 16) (oi := _) (v := ?_) rfl (by kernel_rfl) (by kernel_rfl) (by kernel_rfl) (fun _ _ _ h => h) (Or.inl ⟨by rfl, ?_⟩) (by assumption) ?_
              rotate_left
              · (intro w hSw; (try dsimp only at hSw); go_simp; try with_reducible rfl)
              try simp only [Act.put, List.getElem_toArray, List.getElem_cons_zero, List.getElem_cons_succ, List.setIfInBounds_toArray, List.set_cons_zero, List.set_cons_succ]
              refine wpAnyH_take (i := 17) (oi := _) (v := ?_) rfl (by kernel_rfl) (by kernel_rfl) (by kernel_rfl) (fun _ _ _ h => h) (Or.inl ⟨by rfl, ?_⟩) (by assumption) ?_
              rotate_left
              · (intro w hSw; (try dsimp only at hSw); go_simp; try with_reducible rfl)
              try simp only [Act.put, List.getElem_toArray, List.getElem_cons_zero, List.getElem_cons_succ, List.setIfInBounds_toArray, List.set_cons_zero, List.set_cons_succ]
              refine wpAnyH_take (i := 18) (oi := _) (v := ?_) rfl (by kernel_rfl) (by kernel_rfl) (by kernel_rfl) (fun _ _ _ h => h) (Or.inl ⟨by rfl, ?_⟩) (by assumption) ?_
              rotate_left
              · (intro w hSw; (try dsimp only at hSw); go_simp; try with_reducible rfl)
              try simp only [Act.put, List.getElem_toArray, List.getElem_cons_zero, List.getElem_cons_succ, List.setIfInBounds_toArray, List.set_cons_zero, List.set_cons_succ]
              refine wpAnyH_take (i := 19) (oi := _) (v := ?_) rfl (by kernel_rfl) (by kernel_rfl) (by kernel_rfl) (fun _ _ _ h => h) (Or.inl ⟨by rfl, ?_⟩) (by assumption) ?_
              rotate_left
              · (intro w hSw; (try dsimp only at hSw); go_simp; try with_reducible rfl)
              try simp only [Act.put, List.getElem_toArray, List.getElem_cons_zero, List.getElem_cons_succ, List.setIfInBounds_toArray, List.set_cons_zero, List.set_cons_succ]
              refine wpAnyH_take (i := 21) (oi := _) (v := ?_) rfl (by kernel_rfl) (by kernel_rfl) (by kernel_rfl) (fun _ _ _ h => h) (Or.inl ⟨by rfl, ?_⟩) (by assumption) ?_
              rotate_left
              · (intro w hSw; (try dsimp only at hSw); go_simp; try with_reducible rfl)
              try simp only [Act.put, List.getElem_toArray, List.getElem_cons_zero, List.getElem_cons_succ, List.setIfInBounds_toArray, List.set_cons_zero, List.set_cons_succ]
              refine wpAnyH_take (i := 22) (oi := _) (v := ?_) rfl (by kernel_rfl) (by kernel_rfl) (by kernel_rfl) (fun _ _ _ h => h) (Or.inl ⟨by rfl, ?_⟩) (by assumption) ?_
              rotate_left
              · (intro w hSw; (try dsimp only at hSw); go_simp; try with_reducible rfl)
              try simp only [Act.put, List.getElem_toArray, List.getElem_cons_zero, List.getElem_cons_succ, List.setIfInBounds_toArray, List.set_cons_zero, List.set_cons_succ]
              refine wpAnyH_take (i := 25) (oi := _) (v := ?_) rfl (by kernel_rfl) (by kernel_rfl) (by kernel_rfl) (fun _ _ _ h => h) (Or.inl ⟨by rfl, ?_⟩) (by assumption) ?_
              rotate_left
              · (intro w hSw; (try dsimp only at hSw); go_simp; try with_reducible rfl)
              try simp only [Act.put, List.getElem_toArray, List.getElem_cons_zero, List.getElem_cons_succ, List.setIfInBounds_toArray, List.set_cons_zero, List.set_cons_succ]
              refine wpAnyH_ready (rs := [20, 23]) (by kernel_rfl) (by simp) ?_
              refine AllReadyH.cons (o := _) rfl (fun K hK => ?_) ?_
              · go_simp
                go_at_call 10
                refine (HDD.out _ (by first | exact Or.inl rfl | exact Or.inr rfl) _).mono ?_
                rintro e w7 ⟨rfl, hb7⟩
                refine hK.out _ _ ?_ (fun hHeld => ?_)
                · exact keep3 hb7 (by assumption)
                clear hK K
                try simp only [Act.put, List.getElem_toArray, List.getElem_cons_zero, List.getElem_cons_succ, List.setIfInBounds_toArray, List.set_cons_zero, List.set_cons_succ]
                refine wpAnyH_ready (rs := [23]) (by kernel_rfl) (by simp) ?_
                refine AllReadyH.cons (o := _) rfl (fun K hK => ?_) ?_
                · go_simp
                  refine hK.out _ _ ?_ (fun hHeld => ?_)
                  · exact keep3 ((Below.refl _ _).alloc (Nat.le_refl _) _) (by assumption)
                  clear hK K
                  try simp only [Act.put, List.getElem_toArray, List.getElem_cons_zero, List.getElem_cons_succ, List.setIfInBounds_toArray, List.set_cons_zero, List.set_cons_succ]
                  refine wpAnyH_ready (rs := [24]) (by kernel_rfl) (by simp) ?_
                  refine AllReadyH.cons (o := _) rfl (fun K hK => ?_) ?_
                  · go_simp
                    refine hK.out _ _ ?_ (fun hHeld => ?_)
                    · exact keep3 (Below.refl _ _) (by assumption)
                    clear hK K
                    try simp only [Act.put, List.getElem_toArray, List.getElem_cons_zero, List.getElem_cons_succ, List.setIfInBounds_toArray, List.set_cons_zero, List.set_cons_succ]
                    refine wpAnyH_ready (rs := [26]) (by kernel_rfl) (by simp) ?_
                    refine AllReadyH.cons (o := _) rfl (fun K hK => ?_) ?_
                    · go_simp
                      refine hK.out _ _ ?_ (fun hHeld => ?_)
                      · exact keep3 ((Below.refl _ _).alloc (Nat.le_refl _) _) (by assumption)
                      clear hK K
                      try simp only [Act.put, List.getElem_toArray, List.getElem_cons_zero, List.getElem_cons_succ, List.setIfInBounds_toArray, List.set_cons_zero, List.set_cons_succ]
                      refine wpAnyH_ready (rs := [27]) (by kernel_rfl) (by simp) ?_
                      refine AllReadyH.cons (o := _) rfl (fun K hK => ?_) ?_
                      · go_simp
                        go_at_call 11
                        refine (HSM.out _ _ (by first | (simp; done) | (rw [kb (by simp)]; simp; done)) (by first | (simp; done) | (rw [kc (by simp)]; simp; done)) (by first | (simp; done) | (have := hb7.size; simp at this ⊢; omega))).mono ?_
                        rintro e w8 ⟨rfl, hb8⟩
                        refine hK.out _ _ ?_ (fun hHeld => ?_)
                        · exact keep3 hb8 (by assumption)
                        clear hK K
                        try simp only [Act.put, List.getElem_toArray, List.getElem_cons_zero, List.getElem_cons_succ, List.setIfInBounds_toArray, List.set_cons_zero, List.set_cons_succ]
                        refine wpAnyH_take (i := 28) (oi := _) (v := ?_) rfl (by kernel_rfl) (by kernel_rfl) (by kernel_rfl) (fun _ _ _ h => h) (Or.inl ⟨by rfl, ?_⟩) (by assumption) ?_
                        rotate_left
                        · (intro w hSw; (try dsimp only at hSw); go_simp; try with_reducible rfl)
                        try simp only [Act.put, List.getElem_toArray, List.getElem_cons_zero, List.getElem_cons_succ, List.setIfInBounds_toArray, List.set_cons_zero, List.set_cons_succ]
                        refine wpAnyH_take (i := 29) (oi := _) (v := ?_) rfl (by kernel_rfl) (by kernel_rfl) (by kernel_rfl) (fun _ _ _ h => h) (Or.inl ⟨by rfl, ?_⟩) (by assumption) ?_
                        rotate_left
                        · (intro w hSw; (try dsimp only at hSw); go_simp; try with_reducible rfl)
                        try simp only [Act.put, List.getElem_toArray, List.getElem_cons_zero, List.getElem_cons_succ, List.setIfInBounds_toArray, List.set_cons_zero, List.set_cons_succ]
                        refine wpAnyH_take (i := 30) (oi := _) (v := ?_) rfl (by kernel_rfl) (by kernel_rfl) (by kernel_rfl) (fun _ _ _ h => h) (Or.inl ⟨by rfl, ?_⟩) (by assumption) ?_
                        rotate_left
                        · (intro w hSw; (try dsimp only at hSw); go_simp; try with_reducible rfl)
                        try simp only [Act.put, List.getElem_toArray, List.getElem_cons_zero, List.getElem_cons_succ, List.setIfInBounds_toArray, List.set_cons_zero, List.set_cons_succ]
                        refine wpAnyH_take (i := 31) (oi := _) (v := ?_) rfl (by kernel_rfl) (by kernel_rfl) (by kernel_rfl) (fun _ _ _ h => h) (Or.inl ⟨by rfl, ?_⟩) (by assumption) ?_
                        rotate_left
                        · (intro w hSw; (try dsimp only at hSw); go_simp; try with_reducible rfl)
                        try simp only [Act.put, List.getElem_toArray, List.getElem_cons_zero, List.getElem_cons_succ, List.setIfInBounds_toArray, List.set_cons_zero, List.set_cons_succ]
                        refine wpAnyH_take (i := 32) (oi := _) (v := ?_) rfl (by kernel_rfl) (by kernel_rfl) (by kernel_rfl) (fun _ _ _ h => h) (Or.inl ⟨by rfl, ?_⟩) (by assumption) ?_
                        rotate_left
                        · (intro w hSw; (try dsimp only at hSw); go_simp; try with_reducible rfl)
                        try simp only [Act.put, List.getElem_toArray, List.getElem_cons_zero, List.getElem_cons_succ, List.setIfInBounds_toArray, List.set_cons_zero, List.set_cons_succ]
                        refine wpAnyH_take (i := 33) (oi := _) (v := ?_) rfl (by kernel_rfl) (by kernel_rfl) (by kernel_rfl) (fun _ _ _ h => h) (Or.inl ⟨by rfl, ?_⟩) (by assumption) ?_
                        rotate_left
                        · (intro w hSw; (try dsimp only at hSw); go_simp; try with_reducible rfl)
                        try simp only [Act.put, List.getElem_toArray, List.getElem_cons_zero, List.getElem_cons_succ, List.setIfInBounds_toArray, List.set_cons_zero, List.set_cons_succ]
                        refine wpAnyH_take (i := 34) (oi := _) (v := ?_) rfl (by kernel_rfl) (by kernel_rfl) (by kernel_rfl) (fun _ _ _ h => h) (Or.inl ⟨by rfl, ?_⟩) (by assumption) ?_
                        rotate_left
                        · (intro w hSw; (try dsimp only at hSw); go_simp; try with_reducible rfl)
                        try simp only [Act.put, List.getElem_toArray, List.getElem_cons_zero, List.getElem_cons_succ, List.setIfInBounds_toArray, List.set_cons_zero, List.set_cons_succ]
                        refine wpAnyH_take (i := 35) (oi := _) (v := ?_) rfl (by kernel_rfl) (by kernel_rfl) (by kernel_rfl) (fun _ _ _ h => h) (Or.inl ⟨by rfl, ?_⟩) (by assumption) ?_
                        rotate_left
                        · (intro w hSw; (try dsimp only at hSw); go_simp; try with_reducible rfl)
                        try simp only [Act.put, List.getElem_toArray, List.getElem_cons_zero, List.getElem_cons_succ, List.setIfInBounds_toArray, List.set_cons_zero, List.set_cons_succ]
                        refine wpAnyH_done (by kernel_rfl) ?_ _
                        refine NoPanic.normal ?_
                        go_wp2
                        go_ret
                        exact ⟨rfl, hHeld.2.1⟩
                      exact AllReadyH.nil
                    exact AllReadyH.nil
                  exact AllReadyH.nil
                exact AllReadyH.nil
              refine AllReadyH.cons (o := _) rfl (fun K hK => ?_) ?_
              · go_simp
                refine hK.out _ _ ?_ (fun hHeld => ?_)
                · exact keep3 ((Below.refl _ _).alloc (Nat.le_refl _) _) (by assumption)
                clear hK K
                try simp only [Act.put, List.getElem_toArray, List.getElem_cons_zero, List.getElem_cons_succ, List.setIfInBounds_toArray, List.set_cons_zero, List.set_cons_succ]
                refine wpAnyH_ready (rs := [20, 24]) (by kernel_rfl) (by simp) ?_
                refine AllReadyH.cons (o := _) rfl (fun K hK => ?_) ?_
                · go_simp
                  go_at_call 10
                  refine (HDD.out _ (by first | exact Or.inl rfl | exact Or.inr rfl) _).mono ?_
                  rintro e w7 ⟨rfl, hb7⟩
                  have ka := hb7.cell (p := ⟨w6.heap.size, 0, none⟩)
                  have kb := hb7.cell (p := ⟨w6.heap.size + 1, 0, none⟩)
                  have kc := hb7.cell (p := ⟨w6.heap.size + 1, 1, none⟩)
                  refine hK.out _ _ ?_ (fun hHeld => ?_)
                  · exact keep3 hb7 (by assumption)
                  clear hK K
                  try simp only [Act.put, List.getElem_toArray, List.getElem_cons_zero, List.getElem_cons_succ, List.setIfInBounds_toArray, List.set_cons_zero, List.set_cons_succ]
                  refine wpAnyH_ready (rs := [24]) (by kernel_rfl) (by simp) ?_
                  refine AllReadyH.cons (o := _) rfl (fun K hK => ?_) ?_
                  · go_simp
                    refine hK.out _ _ ?_ (fun hHeld => ?_)
                    · exact keep3 (Below.refl _ _) (by assumption)
                    clear hK K
                    try simp only [Act.put, List.getElem_toArray, List.getElem_cons_zero, List.getElem_cons_succ, List.setIfInBounds_toArray, List.set_cons_zero, List.set_cons_succ]
                    refine wpAnyH_ready (rs := [26]) (by kernel_rfl) (by simp) ?_
                    refine AllReadyH.cons (o := _) rfl (fun K hK => ?_) ?_
                    · go_simp
                      refine hK.out _ _ ?_ (fun hHeld => ?_)
                      · exact keep3 ((Below.refl _ _).alloc (Nat.le_refl _) _) (by assumption)
                      clear hK K
                      try simp only [Act.put, List.getElem_toArray, List.getElem_cons_zero, List.getElem_cons_succ, List.setIfInBounds_toArray, List.set_cons_zero, List.set_cons_succ]
                      refine wpAnyH_ready (rs := [27]) (by kernel_rfl) (by simp) ?_
                      refine AllReadyH.cons (o := _) rfl (fun K hK => ?_) ?_
                      · go_simp
                        go_at_call 11
                        refine (HSM.out _ _ (by first | (simp; done) | (rw [kb (by simp)]; simp; done)) (by first | (simp; done) | (rw [kc (by simp)]; simp; done)) (by first | (simp; done) | (have := hb7.size; simp at this ⊢; omega))).mono ?_
                        rintro e w8 ⟨rfl, hb8⟩
                        refine hK.out _ _ ?_ (fun hHeld => ?_)
                        · exact keep3 hb8 (by assumption)
                        clear hK K
                        try simp only [Act.put, List.getElem_toArray, List.getElem_cons_zero, List.getElem_cons_succ, List.setIfInBounds_toArray, List.set_cons_zero, List.set_cons_succ]
                        refine wpAnyH_take (i := 28) (oi := _) (v := ?_) rfl (by kernel_rfl) (by kernel_rfl) (by kernel_rfl) (fun _ _ _ h => h) (Or.inl ⟨by rfl, ?_⟩) (by assumption) ?_
                        rotate_left
                        · (intro w hSw; (try dsimp only at hSw); go_simp; try with_reducible rfl)
                        try simp only [Act.put, List.getElem_toArray, List.getElem_cons_zero, List.getElem_cons_succ, List.setIfInBounds_toArray, List.set_cons_zero, List.set_cons_succ]
                        refine wpAnyH_take (i := 29) (oi := _) (v := ?_) rfl (by kernel_rfl) (by kernel_rfl) (by kernel_rfl) (fun _ _ _ h => h) (Or.inl ⟨by rfl, ?_⟩) (by assumption) ?_
                        rotate_left
                        · (intro w hSw; (try dsimp only at hSw); go_simp; try with_reducible rfl)
                        try simp only [Act.put, List.getElem_toArray, List.getElem_cons_zero, List.getElem_cons_succ, List.setIfInBounds_toArray, List.set_cons_zero, List.set_cons_succ]
                        refine wpAnyH_take (i := 30) (oi := _) (v := ?_) rfl (by kernel_rfl) (by kernel_rfl) (by kernel_rfl) (fun _ _ _ h => h) (Or.inl ⟨by rfl, ?_⟩) (by assumption) ?_
                        rotate_left
                        · (intro w hSw; (try dsimp only at hSw); go_simp; try with_reducible rfl)
                        try simp only [Act.put, List.getElem_toArray, List.getElem_cons_zero, List.getElem_cons_succ, List.setIfInBounds_toArray, List.set_cons_zero, List.set_cons_succ]
                        refine wpAnyH_take (i := 31) (oi := _) (v := ?_) rfl (by kernel_rfl) (by kernel_rfl) (by kernel_rfl) (fun _ _ _ h => h) (Or.inl ⟨by rfl, ?_⟩) (by assumption) ?_
                        rotate_left
                        · (intro w hSw; (try dsimp only at hSw); go_simp; try with_reducible rfl)
                        try simp only [Act.put, List.getElem_toArray, List.getElem_cons_zero, List.getElem_cons_succ, List.setIfInBounds_toArray, List.set_cons_zero, List.set_cons_succ]
                        refine wpAnyH_take (i := 32) (oi := _) (v := ?_) rfl (by kernel_rfl) (by kernel_rfl) (by kernel_rfl) (fun _ _ _ h => h) (Or.inl ⟨by rfl, ?_⟩) (by assumption) ?_
                        rotate_left
                        · (intro w hSw; (try dsimp only at hSw); go_simp; try with_reducible rfl)
                        try simp only [Act.put, List.getElem_toArray, List.getElem_cons_zero, List.getElem_cons_succ, List.setIfInBounds_toArray, List.set_cons_zero, List.set_cons_succ]
                        refine wpAnyH_take (i := 33) (oi := _) (v := ?_) rfl (by kernel_rfl) (by kernel_rfl) (by kernel_rfl) (fun _ _ _ h => h) (Or.inl ⟨by rfl, ?_⟩) (by assumption) ?_
                        rotate_left
                        · (intro w hSw; (try dsimp only at hSw); go_simp; try with_reducible rfl)
                        try simp only [Act.put, List.getElem_toArray, List.getElem_cons_zero, List.getElem_cons_succ, List.setIfInBounds_toArray, List.set_cons_zero, List.set_cons_succ]
                        refine wpAnyH_take (i := 34) (oi := _) (v := ?_) rfl (by kernel_rfl) (by kernel_rfl) (by kernel_rfl) (fun _ _ _ h => h) (Or.inl ⟨by rfl, ?_⟩) (by assumption) ?_
                        rotate_left
                        · (intro w hSw; (try dsimp only at hSw); go_simp; try with_reducible rfl)
                        try simp only [Act.put, List.getElem_toArray, List.getElem_cons_zero, List.getElem_cons_succ, List.setIfInBounds_toArray, List.set_cons_zero, List.set_cons_succ]
                        refine wpAnyH_take (i := 35) (oi := _) (v := ?_) rfl (by kernel_rfl) (by kernel_rfl) (by kernel_rfl) (fun _ _ _ h => h) (Or.inl ⟨by rfl, ?_⟩) (by assumption) ?_
                        rotate_left
                        · (intro w hSw; (try dsimp only at hSw); go_simp; try with_reducible rfl)
                        try simp only [Act.put, List.getElem_toArray, List.getElem_cons_zero, List.getElem_cons_succ, List.setIfInBounds_toArray, List.set_cons_zero, List.set_cons_succ]
                        refine wpAnyH_done (by kernel_rfl) ?_ _
                        refine NoPanic.normal ?_
                        go_wp2
                        go_ret
                        exact ⟨rfl, hHeld.2.1⟩
                      exact AllReadyH.nil
                    exact AllReadyH.nil
                  exact AllReadyH.nil
                refine AllReadyH.cons (o := _) rfl (fun K hK => ?_) ?_
                · go_simp
                  refine hK.out _ _ ?_ (fun hHeld => ?_)
                  · exact keep3 (Below.refl _ _) (by assumption)
                  clear hK K
                  try simp only [Act.put, List.getElem_toArray, List.getElem_cons_zero, List.getElem_cons_succ, List.setIfInBounds_toArray, List.set_cons_zero, List.set_cons_succ]
                  refine wpAnyH_ready (rs := [20, 26]) (by kernel_rfl) (by simp) ?_
                  refine AllReadyH.cons (o := _) rfl (fun K hK => ?_) ?_
                  · go_simp
                    go_at_call 10
                    refine (HDD.out _ (by first | exact Or.inl rfl | exact Or.inr rfl) _).mono ?_
                    rintro e w7 ⟨rfl, hb7⟩
                    have ka := hb7.cell (p := ⟨w6.heap.size, 0, none⟩)
                    have kb := hb7.cell (p := ⟨w6.heap.size + 1, 0, none⟩)
                    have kc := hb7.cell (p := ⟨w6.heap.size + 1, 1, none⟩)
                    refine hK.out _ _ ?_ (fun hHeld => ?_)
                    · exact keep3 hb7 (by assumption)
                    clear hK K
                    try simp only [Act.put, List.getElem_toArray, List.getElem_cons_zero, List.getElem_cons_succ, List.setIfInBounds_toArray, List.set_cons_zero, List.set_cons_succ]
                    refine wpAnyH_ready (rs := [26]) (by kernel_rfl) (by simp) ?_
                    refine AllReadyH.cons (o := _) rfl (fun K hK => ?_) ?_
                    · go_simp
                      refine hK.out _ _ ?_ (fun hHeld => ?_)
                      · exact keep3 ((Below.refl _ _).alloc (Nat.le_refl _) _) (by assumption)
                      clear hK K
                      try simp only [Act.put, List.getElem_toArray, List.getElem_cons_zero, List.getElem_cons_succ, List.setIfInBounds_toArray, List.set_cons_zero, List.set_cons_succ]
                      refine wpAnyH_ready (rs := [27]) (by kernel_rfl) (by simp) ?_
                      refine AllReadyH.cons (o := _) rfl (fun K hK => ?_) ?_
                      · go_simp
                        go_at_call 11
                        refine (HSM.out _ _ (by first | (simp; done) | (rw [kb (by simp)]; simp; done)) (by first | (simp; done) | (rw [kc (by simp)]; simp; done)) (by first | (simp; done) | (have := hb7.size; simp at this ⊢; omega))).mono ?_
                        rintro e w8 ⟨rfl, hb8⟩
                        refine hK.out _ _ ?_ (fun hHeld => ?_)
                        · exact keep3 hb8 (by assumption)
                        clear hK K
                        try simp only [Act.put, List.getElem_toArray, List.getElem_cons_zero, List.getElem_cons_succ, List.setIfInBounds_toArray, List.set_cons_zero, List.set_cons_succ]
                        refine wpAnyH_take (i := 28) (oi := _) (v := ?_) rfl (by kernel_rfl) (by kernel_rfl) (by kernel_rfl) (fun _ _ _ h => h) (Or.inl ⟨by rfl, ?_⟩) (by assumption) ?_
                        rotate_left
                        · (intro w hSw; (try dsimp only at hSw); go_simp; try with_reducible rfl)
                        try simp only [Act.put, List.getElem_toArray, List.getElem_cons_zero, List.getElem_cons_succ, List.setIfInBounds_toArray, List.set_cons_zero, List.set_cons_succ]
                        refine wpAnyH_take (i := 29) (oi := _) (v := ?_) rfl (by kernel_rfl) (by kernel_rfl) (by kernel_rfl) (fun _ _ _ h => h) (Or.inl ⟨by rfl, ?_⟩) (by assumption) ?_
                        rotate_left
                        · (intro w hSw; (try dsimp only at hSw); go_simp; try with_reducible rfl)
                        try simp only [Act.put, List.getElem_toArray, List.getElem_cons_zero, List.getElem_cons_succ, List.setIfInBounds_toArray, List.set_cons_zero, List.set_cons_succ]
                        refine wpAnyH_take (i := 30) (oi := _) (v := ?_) rfl (by kernel_rfl) (by kernel_rfl) (by kernel_rfl) (fun _ _ _ h => h) (Or.inl ⟨by rfl, ?_⟩) (by assumption) ?_
                        rotate_left
                        · (intro w hSw; (try dsimp only at hSw); go_simp; try with_reducible rfl)
                        try simp only [Act.put, List.getElem_toArray, List.getElem_cons_zero, List.getElem_cons_succ, List.setIfInBounds_toArray, List.set_cons_zero, List.set_cons_succ]
                        refine wpAnyH_take (i := 31) (oi := _) (v := ?_) rfl (by kernel_rfl) (by kernel_rfl) (by kernel_rfl) (fun _ _ _ h => h) (Or.inl ⟨by rfl, ?_⟩) (by assumption) ?_
                        rotate_left
                        · (intro w hSw; (try dsimp only at hSw); go_simp; try with_reducible rfl)
                        try simp only [Act.put, List.getElem_toArray, List.getElem_cons_zero, List.getElem_cons_succ, List.setIfInBounds_toArray, List.set_cons_zero, List.set_cons_succ]
                        refine wpAnyH_take (i := 32) (oi := _) (v := ?_) rfl (by kernel_rfl) (by kernel_rfl) (by kernel_rfl) (fun _ _ _ h => h) (Or.inl ⟨by rfl, ?_⟩) (by assumption) ?_
                        rotate_left
                        · (intro w hSw; (try dsimp only at hSw); go_simp; try with_reducible rfl)
                        try simp only [Act.put, List.getElem_toArray, List.getElem_cons_zero, List.getElem_cons_succ, List.setIfInBounds_toArray, List.set_cons_zero, List.set_cons_succ]
                        refine wpAnyH_take (i := 33) (oi := _) (v := ?_) rfl (by kernel_rfl) (by kernel_rfl) (by kernel_rfl) (fun _ _ _ h => h) (Or.inl ⟨by rfl, ?_⟩) (by assumption) ?_
                        rotate_left
                        · (intro w hSw; (try dsimp only at hSw); go_simp; try with_reducible rfl)
                        try simp only [Act.put, List.getElem_toArray, List.getElem_cons_zero, List.getElem_cons_succ, List.setIfInBounds_toArray, List.set_cons_zero, List.set_cons_succ]
                        refine wpAnyH_take (i := 34) (oi := _) (v := ?_) rfl (by kernel_rfl) (by kernel_rfl) (by kernel_rfl) (fun _ _ _ h => h) (Or.inl ⟨by rfl, ?_⟩) (by assumption) ?_
                        rotate_left
                        · (intro w hSw; (try dsimp only at hSw); go_simp; try with_reducible rfl)
                        try simp only [Act.put, List.getElem_toArray, List.getElem_cons_zero, List.getElem_cons_succ, List.setIfInBounds_toArray, List.set_cons_zero, List.set_cons_succ]
                        refine wpAnyH_take (i := 35) (oi := _) (v := ?_) rfl (by kernel_rfl) (by kernel_rfl) (by kernel_rfl) (fun _ _ _ h => h) (Or.inl ⟨by rfl, ?_⟩) (by assumption) ?_
                        rotate_left
                        · (intro w hSw; (try dsimp only at hSw); go_simp; try with_reducible rfl)
                        try simp only [Act.put, List.getElem_toArray, List.getElem_cons_zero, List.getElem_cons_succ, List.setIfInBounds_toArray, List.set_cons_zero, List.set_cons_succ]
                        refine wpAnyH_done (by kernel_rfl) ?_ _
                        refine NoPanic.normal ?_
                        go_wp2
                        go_ret
                        exact ⟨rfl, hHeld.2.1⟩
                      exact AllReadyH.nil
                    exact AllReadyH.nil
                  refine AllReadyH.cons (o := _) rfl (fun K hK => ?_) ?_
                  · go_simp
                    refine hK.out _ _ ?_ (fun hHeld => ?_)
                    · exact keep3 ((Below.refl _ _).alloc (Nat.le_refl _) _) (by assumption)
                    clear hK K
                    try simp only [Act.put, List.getElem_toArray, List.getElem_cons_zero, List.getElem_cons_succ, List.setIfInBounds_toArray, List.set_cons_zero, List.set_cons_succ]
                    refine wpAnyH_ready (rs := [20]) (by kernel_rfl) (by simp) ?_
                    refine AllReadyH.cons (o := _) rfl (fun K hK => ?_) ?_
                    · go_simp
                      go_at_call 10
                      refine (HDD.out _ (by first | exact Or.inl rfl | exact Or.inr rfl) _).mono ?_
                      rintro e w7 ⟨rfl, hb7⟩
                      have ka := hb7.cell (p := ⟨w6.heap.size, 0, none⟩)
                      have kb := hb7.cell (p := ⟨w6.heap.size + 1, 0, none⟩)
                      have kc := hb7.cell (p := ⟨w6.heap.size + 1, 1, none⟩)
                      refine hK.out _ _ ?_ (fun hHeld => ?_)
                      · exact keep3 hb7 (by assumption)
                      clear hK K
                      try simp only [Act.put, List.getElem_toArray, List.getElem_cons_zero, List.getElem_cons_succ, List.setIfInBounds_toArray, List.set_cons_zero, List.set_cons_succ]
                      refine wpAnyH_ready (rs := [27]) (by kernel_rfl) (by simp) ?_
                      refine AllReadyH.cons (o := _) rfl (fun K hK => ?_) ?_
                      · go_simp
                        go_at_call 11
                        refine (HSM.out _ _ (by first | (simp; done) | (rw [kb (by simp)]; simp; done)) (by first | (simp; done) | (rw [kc (by simp)]; simp; done)) (by first | (simp; done) | (have := hb7.size; simp at this ⊢; omega))).mono ?_
                        rintro e w8 ⟨rfl, hb8⟩
                        refine hK.out _ _ ?_ (fun hHeld => ?_)
                        · exact keep3 hb8 (by assumption)
                        clear hK K
                        try simp only [Act.put, List.getElem_toArray, List.getElem_cons_zero, List.getElem_cons_succ, List.setIfInBounds_toArray, List.set_cons_zero, List.set_cons_succ]
                        refine wpAnyH_take (i := 28) (oi := _) (v := ?_) rfl (by kernel_rfl) (by kernel_rfl) (by kernel_rfl) (fun _ _ _ h => h) (Or.inl ⟨by rfl, ?_⟩) (by assumption) ?_
                        rotate_left
                        · (intro w hSw; (try dsimp only at hSw); go_simp; try with_reducible rfl)
                        try simp only [Act.put, List.getElem_toArray, List.getElem_cons_zero, List.getElem_cons_succ, List.setIfInBounds_toArray, List.set_cons_zero, List.set_cons_succ]
                        refine wpAnyH_take (i := 29) (oi := _) (v := ?_) rfl (by kernel_rfl) (by kernel_rfl) (by kernel_rfl) (fun _ _ _ h => h) (Or.inl ⟨by rfl, ?_⟩) (by assumption) ?_
                        rotate_left
                        · (intro w hSw; (try dsimp only at hSw); go_simp; try with_reducible rfl)
                        try simp only [Act.put, List.getElem_toArray, List.getElem_cons_zero, List.getElem_cons_succ, List.setIfInBounds_toArray, List.set_cons_zero, List.set_cons_succ]
                        refine wpAnyH_take (i := 30) (oi := _) (v := ?_) rfl (by kernel_rfl) (by kernel_rfl) (by kernel_rfl) (fun _ _ _ h => h) (Or.inl ⟨by rfl, ?_⟩) (by assumption) ?_
                        rotate_left
                        · (intro w hSw; (try dsimp only at hSw); go_simp; try with_reducible rfl)
                        try simp only [Act.put, List.getElem_toArray, List.getElem_cons_zero, List.getElem_cons_succ, List.setIfInBounds_toArray, List.set_cons_zero, List.set_cons_succ]
                        refine wpAnyH_take (i := 31) (oi := _) (v := ?_) rfl (by kernel_rfl) (by kernel_rfl) (by kernel_rfl) (fun _ _ _ h => h) (Or.inl ⟨by rfl, ?_⟩) (by assumption) ?_
                        rotate_left
                        · (intro w hSw; (try dsimp only at hSw); go_simp; try with_reducible rfl)
                        try simp only [Act.put, List.getElem_toArray, List.getElem_cons_zero, List.getElem_cons_succ, List.setIfInBounds_toArray, List.set_cons_zero, List.set_cons_succ]
                        refine wpAnyH_take (i := 32) (oi := _) (v := ?_) rfl (by kernel_rfl) (by kernel_rfl) (by kernel_rfl) (fun _ _ _ h => h) (Or.inl ⟨by rfl, ?_⟩) (by assumption) ?_
                        rotate_left
                        · (intro w hSw; (try dsimp only at hSw); go_simp; try with_reducible rfl)
                        try simp only [Act.put, List.getElem_toArray, List.getElem_cons_zero, List.getElem_cons_succ, List.setIfInBounds_toArray, List.set_cons_zero, List.set_cons_succ]
                        refine wpAnyH_take (i := 33) (oi := _) (v := ?_) rfl (by kernel_rfl) (by kernel_rfl) (by kernel_rfl) (fun _ _ _ h => h) (Or.inl ⟨by rfl, ?_⟩) (by assumption) ?_
                        rotate_left
                        · (intro w hSw; (try dsimp only at hSw); go_simp; try with_reducible rfl)
                        try simp only [Act.put, List.getElem_toArray, List.getElem_cons_zero, List.getElem_cons_succ, List.setIfInBounds_toArray, List.set_cons_zero, List.set_cons_succ]
                        refine wpAnyH_take (i := 34) (oi := _) (v := ?_) rfl (by kernel_rfl) (by kernel_rfl) (by kernel_rfl) (fun _ _ _ h => h) (Or.inl ⟨by rfl, ?_⟩) (by assumption) ?_
                        rotate_left
                        · (intro w hSw; (try dsimp only at hSw); go_simp; try with_reducible rfl)
                        try simp only [Act.put, List.getElem_toArray, List.getElem_cons_zero, List.getElem_cons_succ, List.setIfInBounds_toArray, List.set_cons_zero, List.set_cons_succ]
                        refine wpAnyH_take (i := 35) (oi := _) (v := ?_) rfl (by kernel_rfl) (by kernel_rfl) (by kernel_rfl) (fun _ _ _ h => h) (Or.inl ⟨by rfl, ?_⟩) (by assumption) ?_
                        rotate_left
                        · (intro w hSw; (try dsimp only at hSw); go_simp; try with_reducible rfl)
                        try simp only [Act.put, List.getElem_toArray, List.getElem_cons_zero, List.getElem_cons_succ, List.setIfInBounds_toArray, List.set_cons_zero, List.set_cons_succ]
                        refine wpAnyH_done (by kernel_rfl) ?_ _
                        refine NoPanic.normal ?_
                        go_wp2
                        go_ret
                        exact ⟨rfl, hHeld.2.1⟩
                      exact AllReadyH.nil
                    exact AllReadyH.nil
                  exact AllReadyH.nil
                exact AllReadyH.nil
              exact AllReadyH.nil
            exact AllReadyH.nil
          exact AllReadyH.nil
end Go.Proofs.YtgjiicjbkmcecaaDoor
