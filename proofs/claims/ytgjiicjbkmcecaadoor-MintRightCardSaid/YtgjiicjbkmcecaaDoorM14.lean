import Derived.Test.YtgjiicjbkmcecaaDoorM13
namespace Go.Proofs.YtgjiicjbkmcecaaDoor
open Go.RowKit
/-- Encode's state behind j bytes. -/
def encX (s : List UInt8) : Nat → Nat × Nat × List UInt8
  | 0 => (0, 0, [])
  | j + 1 => (((encX s j).1 * 2 ^ 8 + (s.getD j 0).toNat) % 2 ^ (((encX s j).2.1 + 8) % 5), ((encX s j).2.1 + 8) % 5, (encX s j).2.2 ++ encD ((encX s j).1 * 2 ^ 8 + (s.getD j 0).toNat) ((encX s j).2.1 + 8) (((encX s j).2.1 + 8) / 5))
theorem encX_ok (s : List UInt8) (j : Nat) : (encX s j).1 < 2 ^ (encX s j).2.1 ∧ (encX s j).2.1 < 5 ∧ (encX s j).2.2.length ≤ 2 * j := by
  induction j with
  | zero => exact ⟨Nat.one_pos, Nat.succ_pos _, Nat.le_refl _⟩
  | succ j ih =>
    obtain ⟨_, h2, h3⟩ := ih
    refine ⟨Nat.mod_lt _ (Nat.two_pow_pos _), Nat.mod_lt _ (by decide), ?_⟩
    show ((encX s j).2.2 ++ encD _ _ _).length ≤ _
    rw [List.length_append, encD, List.length_map, List.length_range]
    omega
def encF (s : List UInt8) : List UInt8 :=
  if 0 < (encX s s.length).2.1 then (encX s s.length).2.2 ++ encD ((encX s s.length).1 * 2 ^ (5 - (encX s s.length).2.1)) 5 1 else (encX s s.length).2.2
set_option maxRecDepth 100000
set_option maxHeartbeats 6400000 in
theorem encode_any (s : ByteArray) (w : World) (hs : s.size ≤ 100) :
    Calls Tryd.prog 43 #[.string s] w fun e w' => e = .returned (.string ⟨(encF s.data.toList).toArray⟩) ∧ Below w.heap.size w w' := by
  go_enter Tryd.func43, Tryd.ntmps43
  go_wp2_with fail
  generalize hW0 : (World.alloc _ _) = W0
  have hI0 : EncAt w.heap.size (w.heap.size + 1) (w.heap.size + 2) w.heap.size 0 0 [] W0 := by
    rw [← hW0]
    refine ⟨?_, ?_, Or.inl ⟨Nat.le_refl _, .slice none 0 0, ?_, ⟨rfl, Or.inl ⟨rfl, rfl⟩⟩, by intro h; cases h⟩⟩
    · exact block_old _ (block_new _ _ _ _ (by simp)) (by simp)
    · exact block_new _ _ _ _ (by simp)
    · exact block_old _ (block_old _ (block_new _ _ _ _ rfl) (by simp)) (by simp; omega)
  have hb0 : Below w.heap.size w W0 := by rw [← hW0]; (repeat (first | exact Below.refl _ _ | assumption | refine Below.drew ?_ | refine below_drewN ?_ _ | refine Below.alloc ?_ (by first | omega | (simp; done) | (simp; omega) | (simp at *; omega)) _ | refine Below.setCell ?_ (by first | omega | (simp; done) | (simp; omega)) _ | refine Below.trans ?_ (Below.mono (by assumption) (by first | omega | (simp; done) | (simp; omega) | (simp at *; omega)))))
  have hz0 : W0.heap.size = w.heap.size + 3 := by rw [← hW0]; simp
  have HI0 := Lib.hid hI0
  clear hI0 hW0
  go_loopg [11] s.size (fun g v wr => ∃ j : Nat, g = s.size - j ∧ j ≤ s.size ∧ v = .int .i64 j ∧ EncAt w.heap.size (w.heap.size + 1) (w.heap.size + 2) w.heap.size (encX s.data.toList j).1 (encX s.data.toList j).2.1 (encX s.data.toList j).2.2 wr ∧ Below w.heap.size w wr ∧ w.heap.size + 2 < wr.heap.size)
  case atStart => exact ⟨0, rfl, by omega, rfl, HI0.out, hb0, by omega⟩
  case round =>
    obtain ⟨j, rfl, hj, rfl, hI, hb, hz⟩ := hrel
    obtain ⟨x, hx⟩ : ∃ x, x = (encX s.data.toList j).1 := ⟨_, rfl⟩
    obtain ⟨n, hn⟩ : ∃ n, n = (encX s.data.toList j).2.1 := ⟨_, rfl⟩
    obtain ⟨l, hl⟩ : ∃ l, l = (encX s.data.toList j).2.2 := ⟨_, rfl⟩
    have hok := encX_ok s.data.toList j
    rw [← hx, ← hn, ← hl] at hok hI
    obtain ⟨hok1, hok2, hok3⟩ := hok
    have HI := Lib.hid hI
    by_cases hjl : j < s.size
    · have hnx : encX s.data.toList (j + 1) = ((x * 2 ^ 8 + (s.data.toList.getD j 0).toNat) % 2 ^ ((n + 8) % 5), (n + 8) % 5, l ++ encD (x * 2 ^ 8 + (s.data.toList.getD j 0).toNat) (n + 8) ((n + 8) / 5)) := by
        rw [hx, hn, hl]; rfl
      have hsj : s[j] = s.data.toList.getD j 0 := by
        rw [List.getD_eq_getElem?_getD, List.getElem?_eq_getElem (by rw [Array.length_toList]; exact hjl)]
        rfl
      obtain ⟨m, hm⟩ : ∃ m, m = (s.data.toList.getD j 0).toNat := ⟨_, rfl⟩
      rw [← hm] at hnx
      have hm8 : m < 256 := by rw [hm]; exact UInt8.toNat_lt _
      have HNX := Lib.hid hnx
      have HSJ := Lib.hid hsj
      have HM := Lib.hid hm
      clear hI hx hn hl hnx hsj hm
      go_wp2_with fail
      have hv : wrap64 ((s[j].toNat : Nat) : Int) = (m : Int) := by
        rw [HSJ.out, ← HM.out]; exact w64 _ (Int.natCast_nonneg _) (by omega)
      rw [hv]
      refine (put_any w.heap.size (w.heap.size + 1) (w.heap.size + 2) w.heap.size x m n 8 l wr HI.out hok1 hm8 hok2 (Nat.le_refl _) rfl rfl rfl hz (by omega)).mono ?_
      rintro e w3 ⟨rfl, hI3, hb3⟩
      have hI4 : EncAt w.heap.size (w.heap.size + 1) (w.heap.size + 2) w.heap.size (encX s.data.toList (j + 1)).1 (encX s.data.toList (j + 1)).2.1 (encX s.data.toList (j + 1)).2.2 w3 := by rw [HNX.out]; exact hI3
      have HI4 := Lib.hid hI4
      have hb4 := hb.trans hb3
      have hz4 : w.heap.size + 2 < w3.heap.size := Nat.lt_of_lt_of_le hz hb3.size
      clear hI3 hI4 hb3 hv
      go_wp2
      go_roundg (s.size - (j + 1))
      case measure => omega
      case rel => exact ⟨j + 1, rfl, by omega, by go_num, HI4.out, hb4, hz4⟩
    · obtain rfl : j = s.size := by omega
      obtain ⟨h1, h2, h3⟩ := hI
      have c2 : wr.cell? ⟨w.heap.size + 2, 0, none⟩ = some (.int .i64 n) := (cell_of_block h2 0).trans rfl
      have H3 := Lib.hid h3
      have hF : encF s.data.toList = if 0 < n then l ++ encD (x * 2 ^ (5 - n)) 5 1 else l := by
        rw [hx, hn, hl]; rfl
      have HF := Lib.hid hF
      clear h1 h2 h3 hx hn hl hF
      by_cases hn0 : 0 < n
      · have hd : decide ((0 : Int) < (n : Int)) = true := by simp; omega
        have e5 : (5 : Int) - (n : Int) = ((5 - n : Nat) : Int) := by omega
        go_wp2_with fail
        refine (put_any w.heap.size (w.heap.size + 1) (w.heap.size + 2) w.heap.size x 0 n (5 - n) l wr HI.out hok1 (Nat.two_pow_pos _) hok2 (by omega) rfl rfl rfl hz (by omega)).mono ?_
        rintro e w3 ⟨rfl, ⟨_, _, hA⟩, hb3⟩
        have e6 : n + (5 - n) = 5 := by omega
        rw [e6] at hA
        have hA' : IsB w.heap.size w.heap.size (Lib.byteCells (encF s.data.toList)) w3 := by rw [HF.out, if_pos hn0]; exact hA
        have HA := Lib.hid hA'
        have hb4 := hb.trans hb3
        clear hA hA' hb3 e6 e5
        go_wp2_with fail
        refine (Tryd.Builder_String_any w.heap.size w.heap.size _ _ HA.out hb4.size).mono ?_
        rintro e w4 ⟨rfl, hb5⟩
        have HB := Lib.hid (hb4.trans hb5)
        clear hb5 hb4
        go_wp2
        go_ret
        exact ⟨rfl, HB.out⟩
      · have hd : decide ((0 : Int) < (n : Int)) = false := by simp; omega
        go_wp2_with fail
        have hA' : IsB w.heap.size w.heap.size (Lib.byteCells (encF s.data.toList)) wr := by rw [HF.out, if_neg hn0]; exact H3.out
        refine (Tryd.Builder_String_any w.heap.size w.heap.size _ _ hA' hb.size).mono ?_
        rintro e w4 ⟨rfl, hb5⟩
        have HB := Lib.hid (hb.trans hb5)
        clear hb5 hb hA'
        go_wp2
        go_ret
        exact ⟨rfl, HB.out⟩
set_option maxHeartbeats 1600000 in
theorem token_any (s : ByteArray) (w : World) (hs : s.size = 10) :
    Calls Tryd.prog 30 #[.string s] w fun e w' => e = .returned (.string ⟨(encF s.data.toList).toArray⟩) ∧ Below w.heap.size w w' := by
  have hs' : (s.size : Int) = 10 := by omega
  go_enter Tryd.func30, Tryd.ntmps30
  go_wp2_with (go_at_call 43; refine (encode_any s _ (by omega)).mono ?_; rintro e w1 ⟨rfl, hb1⟩)
  go_ret
  exact ⟨rfl, hb1⟩
end Go.Proofs.YtgjiicjbkmcecaaDoor
