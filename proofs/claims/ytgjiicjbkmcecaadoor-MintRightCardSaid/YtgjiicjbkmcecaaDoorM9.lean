import Derived.Test.YtgjiicjbkmcecaaDoorM8
import Derived.Test.YtgjiicjbkmcecaaDoorShelf
namespace Go.Proofs.YtgjiicjbkmcecaaDoor
open Go.RowKit
set_option maxRecDepth 100000
set_option maxHeartbeats 2000000 in
theorem write_any (B b : Nat) (bs : List Value) (ad : Addr) (m c : Nat) (news : List Value) (w : World) (h : IsB B b bs w)
    (hl : news.length = m) (hnews : ∀ j u, news[j]? = some u → w.cell? (ad.add j) = some u) (hadB : ad.block ≠ b) (h1 : ∀ u ∈ news, u.oneCell' = true)
    (hlen : bs.length + m ≤ 140737488355328) (hBw : B ≤ w.heap.size) :
    Calls Tryd.prog 27 #[.pointer (some ⟨b, 0, none⟩), .slice (some ad) m c] w fun e w' => e = .returned (.tuple #[.int .i64 m, .nilIface]) ∧ (BAt B b (bs ++ news) w' ∧ Below B w w') := by
  obtain ⟨i0, hi, hz0, hz1, hz2⟩ := info_parts info_byte
  have HNEWS := Lib.hid hnews
  clear hnews
  go_enter Tryd.func27, Tryd.ntmps27
  go_wp2_with (go_at_call 42; refine (copyCheck_any' B b bs _ h).mono ?_)
  rintro e w1 ⟨rfl, h1', hb1, hk1⟩
  obtain ⟨hB, v, hbk, hown, hne⟩ := h1'
  have c0 : w1.cell? ⟨b, 0, none⟩ = some (.pointer (some ⟨b, 0, none⟩)) := by rw [Lib.cell_of_heap hbk]; rfl
  have c1 : w1.cell? ⟨b, 1, none⟩ = some v := by rw [Lib.cell_of_heap hbk]; rfl
  have hnews1 : ∀ j u, news[j]? = some u → w1.cell? (ad.add j) = some u := fun j u hj => by
    have hbl : (ad.add j).block ≠ b := by unfold Addr.add; split <;> exact hadB
    have := hk1 _ hbl
    simp only [World.cell?, this]
    exact HNEWS.out j u hj
  go_wp2_with (at_builtin; refine wpList_append_own _ rfl _ _ 40 rfl B 5 i0 (.int .u8 0) 1 1 Tryd.underlying40 hi hz0 hz1 hz2 rfl (by decide) _ _ _ rfl hown ad m c news rfl (by omega) hnews1 h1 ?c3 ?c4 ?c5 ?_)
  case c3 => unfold maxLen; omega
  case c4 => omega
  case c5 => have := hb1.size; omega
  intro v' w2 hown' hgrow _
  have hlt : b < w1.heap.size := lt_of_block' hbk
  have hb2 : w2.heap[b]? = some (.cells #[.pointer (some ⟨b, 0, none⟩), v] 66 (0, 0)) := by
    rw [hgrow.block b hlt (fun e => hne e.symm)]
    exact hbk
  have d0 : w2.cell? ⟨b, 0, none⟩ = some (.pointer (some ⟨b, 0, none⟩)) := by rw [Lib.cell_of_heap hb2]; rfl
  have d1 : w2.cell? ⟨b, 1, none⟩ = some v := by rw [Lib.cell_of_heap hb2]; rfl
  have f1 : w2.frozen? ⟨b, 1, none⟩ = false := Lib.frozen_of_heap hb2 1
  obtain ⟨ao, n', cap, rfl⟩ : ∃ ao n' cap, v' = .slice ao n' cap := by
    rcases hown'.2 with ⟨hv, _⟩ | ⟨g, cap, cur, hv, _⟩
    · exact ⟨_, _, _, hv⟩
    · exact ⟨_, _, _, hv⟩
  go_wp2
  go_ret2
  refine ⟨rfl, ?_, ?_⟩
  · exact Lib.BuilderAt.put (T := 66) (e := 5) hB hb2 (bs' := bs ++ news) (by simpa [hl] using hown') (by decide)
  · exact (hb1.grown hgrow (by have := hb1.size; omega) (fun k hk => (hown.lt k hk).1)).setCell (p := ⟨b, 1, none⟩) hB _
set_option maxHeartbeats 2000000 in
theorem blocksOf_any (t : ByteArray) (w : World) :
    Calls Tryd.prog 23 #[.string t] w fun e w' => e = .returned (.func (.func 36) #[] #[.pointer (some ⟨w.heap.size, 0, none⟩)]) ∧ w'.heap[w.heap.size]? = some (.cells #[.string t] 9 (0, 0)) ∧ Below w.heap.size w w' := by
  go_enter Tryd.func23, Tryd.ntmps23
  go_wp2
  go_ret
  refine ⟨rfl, ?_, ?_⟩
  · exact block_new _ _ _ _ rfl
  · (repeat (first | exact Below.refl _ _ | assumption | refine Below.drew ?_ | refine below_drewN ?_ _ | refine Below.alloc ?_ (by first | omega | (simp; done) | (simp; omega) | (simp at *; omega)) _ | refine Below.setCell ?_ (by first | omega | (simp; done) | (simp; omega)) _ | refine Below.trans ?_ (Below.mono (by assumption) (by first | omega | (simp; done) | (simp; omega) | (simp at *; omega)))))
theorem repeatL_one (x : UInt8) (c : Nat) : Lib.repeatL [x] c = List.replicate c x := by
  induction c with
  | zero => rfl
  | succ c ih => rw [Lib.repeatL, ih, List.replicate_succ]; rfl
theorem repeat0_any (c : Nat) (w : World) (hc : c < 64) :
    Calls Tryd.prog 39 #[.string ⟨#[0]⟩, .int .i64 c] w fun e w' => e = .returned (.string ⟨(List.replicate c 0).toArray⟩) ∧ Below w.heap.size w w' := by
  by_cases h0 : c = 0
  · subst h0
    exact (Tryd.strings_Repeat_zero _ w).mono fun e w' h => ⟨h.1, h.2 ▸ Below.refl _ _⟩
  · by_cases h1 : c = 1
    · subst h1
      exact (Tryd.strings_Repeat_one _ w).mono fun e w' h => ⟨h.1, h.2 ▸ Below.refl _ _⟩
    · refine (Tryd.strings_Repeat_main ⟨#[0]⟩ c w (by omega) (by omega) (by show 1 * c ≤ _; omega) (by decide)).mono ?_
      rintro e w' ⟨rfl, h⟩
      refine ⟨?_, h⟩
      rw [← repeatL_one]
/-- The bytes behind the zeros: the n-th of eight. -/
def lenByte (s : ByteArray) (n : Nat) : UInt8 := UInt8.ofNat ((s.size * 8) / 2 ^ (56 - 8 * n) % 256)
def fillL (s : ByteArray) (n : Nat) : List UInt8 := s.data.toList ++ [128] ++ List.replicate ((119 - s.size % 64) % 64) 0 ++ (List.range n).map (lenByte s)
theorem fillL_length (s : ByteArray) (n : Nat) : (fillL s n).length = s.size + 1 + (119 - s.size % 64) % 64 + n := by
  have : s.data.toList.length = s.size := rfl
  simp only [fillL, List.length_append, List.length_cons, List.length_nil, List.length_replicate, List.length_map, List.length_range, this]
theorem fillL_next (s : ByteArray) (n : Nat) : Lib.byteCells (fillL s (n + 1)) = Lib.byteCells (fillL s n) ++ [.int .u8 ((s.size : Int) * 8 / 2 ^ (56 - 8 * n) % 256)] := by
  have e : fillL s (n + 1) = fillL s n ++ [lenByte s n] := by simp [fillL, List.range_succ]
  rw [e, Lib.byteCells, List.map_append]
  show _ ++ [Value.int .u8 (lenByte s n).toNat] = _
  have e2 : (lenByte s n).toNat = s.size * 8 / 2 ^ (56 - 8 * n) % 256 := by
    rw [lenByte, UInt8.toNat_ofNat']; omega
  rw [e2]
  rw [Int.natCast_emod, Int.natCast_ediv, Int.natCast_pow, Int.natCast_mul]
  rfl
theorem strCells_bytes (s : ByteArray) : Lib.strCells s = Lib.byteCells s.data.toList := rfl
set_option maxHeartbeats 3000000 in
theorem fill_any (s : ByteArray) (w : World) (hs : s.size ≤ 1073741824) :
    Calls Tryd.prog 24 #[.string s] w fun e w' => e = .returned (.string ⟨(fillL s 8).toArray⟩) ∧ Below w.heap.size w w' := by
  obtain ⟨c, hc⟩ : ∃ c, c = (119 - s.size % 64) % 64 := ⟨_, rfl⟩
  have hc64 : c < 64 := by omega
  have ec : (120 - (s.size : Int) % 64 - 1) % 64 = (c : Int) := by omega
  have HC := Lib.hid hc
  clear hc
  go_enter Tryd.func24, Tryd.ntmps24
  go_wp2_with (first
    | (go_at_call 39; refine (repeat0_any c _ hc64).mono ?_; rintro e w1 ⟨rfl, hb1⟩)
    | fail)
  have hlt0 : w.heap.size < (w.alloc (.cells #[.pointer none, .slice none 0 0] 66)).heap.size := by simp
  have hI : IsB w.heap.size w.heap.size [] w1 := by
    refine Or.inl ⟨Nat.le_refl _, .slice none 0 0, ?_, ⟨rfl, Or.inl ⟨rfl, rfl⟩⟩, by intro h; cases h⟩
    rw [hb1.block _ hlt0]
    exact block_new _ _ _ _ rfl
  have hsize1 : w.heap.size < w1.heap.size := Nat.lt_of_lt_of_le hlt0 hb1.size
  have hB1 : Below w.heap.size w w1 := ((Below.refl _ w).alloc (Nat.le_refl _) _).trans (hb1.mono (Nat.le_of_lt hlt0))
  have eS : s ++ ⟨#[128]⟩ ++ ⟨Array.replicate c 0⟩ = (⟨(fillL s 0).toArray⟩ : ByteArray) := by
    refine ByteArray.ext ?_
    rw [fillL, ← HC.out]
    simp [ByteArray.data_append]
  rw [eS]
  have hlS : (⟨(fillL s 0).toArray⟩ : ByteArray).size = s.size + 1 + c := by
    show (fillL s 0).toArray.size = _
    rw [List.size_toArray, fillL_length, ← HC.out]; rfl
  refine (writeString_any w.heap.size w.heap.size [] _ _ hI (by rw [hlS]; simp; omega) (Nat.le_of_lt hsize1)).mono ?_
  rintro e w2 ⟨rfl, hA2, hb2⟩
  have hB2 : Below w.heap.size w w2 := hB1.trans hb2
  have hsize2 : w.heap.size < w2.heap.size := Nat.lt_of_lt_of_le hsize1 hb2.size
  rw [List.nil_append, strCells_bytes] at hA2
  have HA2 := Lib.hid hA2
  clear hA2 hI hb1 hb2 hB1 eS hlS ec hlt0
  go_wp2
  go_loopg [6] 8 (fun g k wr => ∃ j : Nat, g = 8 - j ∧ j ≤ 8 ∧ k = .int .i64 (56 - 8 * (j : Int)) ∧ BAt w.heap.size w.heap.size (Lib.byteCells (fillL s j)) wr ∧ Below w.heap.size w wr)
  case atStart => exact ⟨0, rfl, by omega, rfl, HA2.out, hB2⟩
  case round =>
    obtain ⟨j, rfl, hj, rfl, hA, hB⟩ := hrel
    have HA := Lib.hid hA
    clear hA
    by_cases hjl : j < 8
    · have hd : decide ((0 : Int) ≤ 56 - 8 * (j : Int)) = true := by simp; omega
      go_wp2_with fail
      have hszr : w.heap.size ≤ wr.heap.size := hB.size
      refine (writeByte_any w.heap.size w.heap.size _ _ _ (Or.inr HA.out) (by rw [Lib.byteCells_length, fillL_length]; omega) hszr).mono ?_
      rintro e w3 ⟨rfl, hA3, hb3⟩
      rw [← fillL_next] at hA3
      have HA3 := Lib.hid hA3
      have HB3 := Lib.hid (hB.trans hb3)
      clear hA3 hb3
      go_wp2
      go_roundg (8 - (j + 1))
      case measure => omega
      case rel => exact ⟨j + 1, rfl, by omega, by go_num, HA3.out, HB3.out⟩
    · obtain rfl : j = 8 := by omega
      go_wp2_with fail
      refine (Tryd.Builder_String_any w.heap.size w.heap.size _ _ (Or.inr HA.out) hB.size).mono ?_
      rintro e w3 ⟨rfl, hb3⟩
      have HB3 := Lib.hid (hB.trans hb3)
      clear hb3 hB
      go_wp2
      go_ret
      exact ⟨rfl, HB3.out⟩
end Go.Proofs.YtgjiicjbkmcecaaDoor
