import Derived.Test.YtgjiicjbkmcecaaDoorM18
namespace Go.Proofs.YtgjiicjbkmcecaaDoor
open Go.RowKit
set_option maxRecDepth 100000
/-- Eight bytes as a number, as the walk spells it. -/
def accF (l : List UInt8) : Nat → Int
  | 0 => 0
  | j + 1 => bits BinOp.or IntKind.u64 (accF l j * 256 % 18446744073709551616) ((l.getD j 0).toNat : Int)
theorem bits_u64_bd (op : BinOp) (x y : Int) : 0 ≤ bits op .u64 x y ∧ bits op .u64 x y < 18446744073709551616 := by
  unfold bits
  rw [IntKind.wrap_u64]
  omega
theorem accF_bd (l : List UInt8) (j : Nat) : 0 ≤ accF l j ∧ accF l j < 18446744073709551616 := by
  cases j with
  | zero => exact ⟨Int.le_refl _, by show (0 : Int) < _; decide⟩
  | succ j => exact bits_u64_bd _ _ _
def plainF (p : Int) (l : List UInt8) : List UInt8 := if p = 4 then codeF (accF l 8).toNat else encF l
theorem plainF_mem (p : Int) (l : List UInt8) : ∀ b ∈ plainF p l, plainB b := by
  unfold plainF
  split
  · exact fun b hb => Or.inr (codeF_mem _ b hb)
  · exact encF_mem l
theorem plainF_length (p : Int) (l : List UInt8) (h : l.length = 10) : (plainF p l).length ≤ 30 := by
  unfold plainF
  split
  · rw [codeF_length]; omega
  · have := encF_length l; omega
set_option maxHeartbeats 1600000 in
theorem plain1_any (n : Int) (c : Nat) (B : Nat) (w : World) (hn0 : 0 ≤ n) (hn1 : n < 18446744073709551616) (hc : c < 256) (hcell : w.cell? ⟨B, 0, none⟩ = some (.int .u64 n)) (hf : w.frozen? ⟨B, 0, none⟩ = false) :
    Calls Tryd.prog 29 #[.int .u8 c, .pointer (some ⟨B, 0, none⟩)] w fun e w' => e = .returned (.tuple #[]) ∧ w' = w.setCell ⟨B, 0, none⟩ (.int .u64 (bits BinOp.or IntKind.u64 (n * 256 % 18446744073709551616) c)) := by
  go_enter Tryd.func29, Tryd.ntmps29
  go_wp2
  go_end0
  exact ⟨rfl, rfl⟩
set_option maxHeartbeats 6400000 in
theorem plain_any (p : Int) (s : ByteArray) (w : World) (hp0 : 1 ≤ p) (hp1 : p ≤ 6) (hs : s.size = 10) (hb : Base w) :
    Calls Tryd.prog 12 #[.int .i64 p, .string s] w fun e w' => e = .returned (.tuple #[.string ⟨(plainF p s.data.toList).toArray⟩, .bool true]) ∧ Below w.heap.size w w' := by
  have ht : triesOf p ≠ 0 := by
    obtain rfl | rfl | rfl | rfl | rfl | rfl : p = 1 ∨ p = 2 ∨ p = 3 ∨ p = 4 ∨ p = 5 ∨ p = 6 := by omega
    all_goals decide
  obtain ⟨t, htt⟩ : ∃ t, t = triesOf p := ⟨_, rfl⟩
  have htr := fun w => tries_any p w
  rw [← htt] at ht htr
  have HTR := Lib.hid htr
  have HS := Lib.hid hs
  have hsz : (s.size : Int) = 10 := by omega
  clear htt htr
  have hd0 : (t == 0) = false := by simpa using ht
  have hd10 : ((s.size : Int) != 10) = false := by rw [hsz]; rfl
  clear hs
  by_cases h4 : p = 4
  · subst h4
    go_enter Tryd.func12, Tryd.ntmps12
    go_wp2_with (first
      | (go_at_call 16; refine (HTR.out _).mono ?_; rintro e w1 ⟨rfl, hb1⟩)
      | fail)
    generalize hWa : (World.alloc _ _) = Wa at hb1 ⊢
    have hza : Wa.heap.size = w.heap.size + 1 := by rw [← hWa]; simp
    have hba : Below w.heap.size w Wa := by rw [← hWa]; (repeat (first | exact Below.refl _ _ | assumption | refine Below.drew ?_ | refine below_drewN ?_ _ | refine Below.alloc ?_ (by first | omega | (simp; done) | (simp; omega) | (simp at *; omega)) _ | refine Below.setCell ?_ (by first | omega | (simp; done) | (simp; omega)) _ | refine Below.trans ?_ (Below.mono (by assumption) (by first | omega | (simp; done) | (simp; omega) | (simp at *; omega)))))
    have hga : Wa.heap[w.heap.size]? = some (.cells #[.int .u64 0] 73 (0, 0)) := by rw [← hWa]; exact block_new _ _ _ _ rfl
    have hg1 := (hb1.block w.heap.size (by omega)).trans hga
    have hbw : Below w.heap.size w w1 := hba.trans (hb1.mono (by omega))
    have hlw : w.heap.size < w1.heap.size := Nat.lt_of_lt_of_le (by omega) hb1.size
    have HG := Lib.hid hg1
    clear hWa hza hba hga hg1 hb1
    obtain ⟨l, hl⟩ : ∃ l, l = s.data.toList := ⟨_, rfl⟩
    have hF : plainF 4 s.data.toList = codeF (accF l 8).toNat := by unfold plainF; rw [if_pos rfl, hl]
    have HL := Lib.hid hl
    have HFF := Lib.hid hF
    clear hl hF
    go_loopg [24] 8 (fun g v wr => ∃ j : Nat, g = 8 - j ∧ j ≤ 8 ∧ v = .int .i64 j ∧ wr.heap[w.heap.size]? = some (.cells #[.int .u64 (accF l j)] 73 (0, 0)) ∧ Below w.heap.size w wr)
    case atStart => exact ⟨0, rfl, by omega, rfl, HG.out, hbw⟩
    case round =>
      obtain ⟨j, rfl, hj, rfl, hg, hb'⟩ := hrel
      obtain ⟨a, ha⟩ : ∃ a, a = accF l j := ⟨_, rfl⟩
      have habd := accF_bd l j
      rw [← ha] at hg habd
      obtain ⟨ha0, ha1⟩ := habd
      have hca : wr.cell? ⟨w.heap.size, 0, none⟩ = some (.int .u64 a) := (cell_of_block hg 0).trans rfl
      have hfa := free_of_block hg 0
      have HGG := Lib.hid hg
      have HA := Lib.hid ha
      clear hg ha
      by_cases hjl : j < 8
      · have hjs : j < s.size := by omega
        have hsj : s[j] = l.getD j 0 := by
          rw [HL.out, List.getD_eq_getElem?_getD, List.getElem?_eq_getElem (by rw [Array.length_toList]; exact hjs)]
          rfl
        obtain ⟨c, hc⟩ : ∃ c : Nat, c = (l.getD j 0).toNat := ⟨_, rfl⟩
        have hc256 : c < 256 := by rw [hc]; exact UInt8.toNat_lt _
        have HSJ := Lib.hid hsj
        have HC := Lib.hid hc
        clear hsj hc
        go_wp2_with fail
        rw [HSJ.out, ← HC.out]
        refine (plain1_any a c w.heap.size wr ha0 ha1 hc256 hca hfa).mono ?_
        rintro e w3 ⟨rfl, rfl⟩
        have hg3 : (wr.setCell ⟨w.heap.size, 0, none⟩ (.int .u64 (bits BinOp.or IntKind.u64 (a * 256 % 18446744073709551616) c))).heap[w.heap.size]? = some (.cells #[.int .u64 (accF l (j + 1))] 73 (0, 0)) := by
          rw [setCell_block HGG.out 0, HA.out, HC.out]; rfl
        have hb3 := hb'.setCell (p := ⟨w.heap.size, 0, none⟩) (Nat.le_refl _) (.int .u64 (bits BinOp.or IntKind.u64 (a * 256 % 18446744073709551616) c))
        generalize wr.setCell ⟨w.heap.size, 0, none⟩ (.int .u64 (bits BinOp.or IntKind.u64 (a * 256 % 18446744073709551616) c)) = w3 at hg3 hb3 ⊢
        have HG3 := Lib.hid hg3
        clear hg3
        go_wp2
        go_roundg (8 - (j + 1))
        case measure => omega
        case rel => exact ⟨j + 1, rfl, by omega, by go_num, HG3.out, hb3⟩
      · obtain rfl : j = 8 := by omega
        rw [show ((8 : Nat) : Int) = 8 from rfl]
        obtain ⟨n, hn⟩ : ∃ n : Nat, n = a.toNat := ⟨_, rfl⟩
        have hna : a = (n : Int) := by omega
        have hcode := code_any n (by omega) wr (hb.tab.below hb')
        have hFn : plainF 4 s.data.toList = codeF n := by rw [HFF.out, ← HA.out, hn]
        have HFN := Lib.hid hFn
        have HCODE := Lib.hid hcode
        rw [hna] at hca
        clear hn hna hFn hcode
        go_wp2_with fail
        refine HCODE.out.mono ?_
        rintro e w4 ⟨rfl, hb4⟩
        have HB := Lib.hid (hb'.trans (hb4.mono hb'.size))
        clear hb4 hb'
        go_wp2
        go_ret2
        exact ⟨by rw [HFN.out]; rfl, HB.out⟩
  · have hd4 : (p != 4) = true := by simpa using h4
    have hF : plainF p s.data.toList = encF s.data.toList := by unfold plainF; rw [if_neg h4]
    rw [hF]
    clear hF h4
    go_enter Tryd.func12, Tryd.ntmps12
    go_wp2_with (first
      | (go_at_call 16; refine (HTR.out _).mono ?_; rintro e w1 ⟨rfl, hb1⟩)
      | (go_at_call 30; refine (token_any s _ HS.out).mono ?_; rintro e w2 ⟨rfl, hb2⟩)
      | fail)
    go_ret2
    exact ⟨rfl, ((Below.refl _ w).alloc (Nat.le_refl _) _).trans ((hb1.mono (by simp)).trans (hb2.mono (Nat.le_trans (by simp) hb1.size)))⟩
end Go.Proofs.YtgjiicjbkmcecaaDoor
