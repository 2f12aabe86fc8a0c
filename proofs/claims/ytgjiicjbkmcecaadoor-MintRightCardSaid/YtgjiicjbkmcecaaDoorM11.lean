import Derived.Test.YtgjiicjbkmcecaaDoorM10
import Derived.RangeFuncCalls
namespace Go.Proofs.YtgjiicjbkmcecaaDoor
open Go.RowKit
attribute [local go_sem] Oper.semAt_some
def hashF (t : ByteArray) : Nat → X8
  | 0 => h0L
  | k + 1 => sumF (hashF t k) (roundsF ksL (wordsOf (sfx t k)) (hashF t k) 64)
theorem sumF_ok (h x : X8) : (sumF h x).ok := by
  unfold X8.ok sumF
  dsimp only
  exact ⟨⟨Int.emod_nonneg _ (by decide), Int.emod_lt_of_pos _ (by decide)⟩, ⟨Int.emod_nonneg _ (by decide), Int.emod_lt_of_pos _ (by decide)⟩, ⟨Int.emod_nonneg _ (by decide), Int.emod_lt_of_pos _ (by decide)⟩, ⟨Int.emod_nonneg _ (by decide), Int.emod_lt_of_pos _ (by decide)⟩, ⟨Int.emod_nonneg _ (by decide), Int.emod_lt_of_pos _ (by decide)⟩, ⟨Int.emod_nonneg _ (by decide), Int.emod_lt_of_pos _ (by decide)⟩, ⟨Int.emod_nonneg _ (by decide), Int.emod_lt_of_pos _ (by decide)⟩, ⟨Int.emod_nonneg _ (by decide), Int.emod_lt_of_pos _ (by decide)⟩⟩
theorem hashF_ok (t : ByteArray) (k : Nat) : (hashF t k).ok := by
  cases k with
  | zero => exact h0L_ok
  | succ k => exact sumF_ok _ _
theorem get_bd (x : X8) (h : x.ok) (j : Nat) : 0 ≤ x.get j ∧ x.get j < 4294967296 := by
  obtain ⟨h1, h2, h3, h4, h5, h6, h7, h8⟩ := h
  unfold X8.get
  split <;> assumption
theorem run_index8 (x : X8) (j : Nat) (hj : j < 8) (w : World) : (Instr.index 55 (.agg x.cells) (.int .i64 (j : Int))).run Tryd.prog w = .ok (.int .u32 (x.get j)) w := by
  obtain rfl | rfl | rfl | rfl | rfl | rfl | rfl | rfl : j = 0 ∨ j = 1 ∨ j = 2 ∨ j = 3 ∨ j = 4 ∨ j = 5 ∨ j = 6 ∨ j = 7 := by omega
  all_goals kernel_rfl
def byteOf (v : Int) (k : Nat) : UInt8 := UInt8.ofNat (v.toNat / 2 ^ k % 256)
def digestL (x : X8) (n : Nat) : List UInt8 := (List.range n).flatMap fun j => [byteOf (x.get j) 24, byteOf (x.get j) 16, byteOf (x.get j) 8, byteOf (x.get j) 0]
theorem digestL_length (x : X8) (n : Nat) : (digestL x n).length = 4 * n := by
  induction n with
  | zero => rfl
  | succ n ih => rw [digestL, List.range_succ, List.flatMap_append, List.length_append, ← digestL, ih]; simp; omega
theorem byteOf_toNat (v : Int) (k : Nat) (h0 : 0 ≤ v) : (((byteOf v k).toNat : Nat) : Int) = v / 2 ^ k % 256 := by
  rw [byteOf, UInt8.toNat_ofNat']
  have : v.toNat / 2 ^ k % 256 % 2 ^ 8 = v.toNat / 2 ^ k % 256 := by omega
  rw [this, Int.natCast_emod, Int.natCast_ediv, Int.natCast_pow, Int.toNat_of_nonneg h0]
  rfl
theorem digestL_next (x : X8) (j : Nat) (v : Int) (hv : v = x.get j) (h0 : 0 ≤ v) (h1 : v < 4294967296) : Lib.byteCells (digestL x (j + 1)) = Lib.byteCells (digestL x j) ++ [.int .u8 (v / 16777216), .int .u8 (v / 65536 % 256), .int .u8 (v / 256 % 256), .int .u8 (v % 256)] := by
  have e : digestL x (j + 1) = digestL x j ++ [byteOf v 24, byteOf v 16, byteOf v 8, byteOf v 0] := by rw [hv]; simp [digestL, List.range_succ]
  rw [e, Lib.byteCells, List.map_append]
  show _ ++ [Value.int .u8 ((byteOf v 24).toNat : Int), Value.int .u8 ((byteOf v 16).toNat : Int), Value.int .u8 ((byteOf v 8).toNat : Int), Value.int .u8 ((byteOf v 0).toNat : Int)] = _
  rw [byteOf_toNat v 24 h0, byteOf_toNat v 16 h0, byteOf_toNat v 8 h0, byteOf_toNat v 0 h0]
  have a : v / 2 ^ 24 % 256 = v / 16777216 := by omega
  have b : v / 2 ^ 16 % 256 = v / 65536 % 256 := by omega
  have c : v / 2 ^ 8 % 256 = v / 256 % 256 := by omega
  have d : v / 2 ^ 0 % 256 = v % 256 := by omega
  rw [a, b, c, d]
  rfl
theorem bAt_alloc {B b : Nat} {p : Value} {bs : List Value} {w : World} (h : Lib.BuilderAt 66 5 B b p bs w) (o : Obj) : Lib.BuilderAt 66 5 B b p bs (w.alloc o) := by
  obtain ⟨hB, v, hb, hown, hne⟩ := h
  exact ⟨hB, v, block_old o hb (lt_of_block' hb), hown.alloc o, hne⟩
theorem isB_alloc {B b : Nat} {bs : List Value} {w : World} (h : IsB B b bs w) (o : Obj) : IsB B b bs (w.alloc o) := h.imp (bAt_alloc · o) (bAt_alloc · o)
theorem isB_lt {B b : Nat} {bs : List Value} {w : World} (h : IsB B b bs w) : b < w.heap.size := h.elim Lib.BuilderAt.lt Lib.BuilderAt.lt
def filled (s : ByteArray) : ByteArray := ⟨(fillL s 8).toArray⟩
def shaS (s : ByteArray) : ByteArray := ⟨(digestL (hashF (filled s) ((filled s).size / 64)) 8).toArray⟩
theorem shaS_size (s : ByteArray) : (shaS s).size = 32 := by
  show (digestL _ 8).toArray.size = 32
  rw [List.size_toArray, digestL_length]
def joined (xs : List ByteArray) : ByteArray := ⟨(Lib.join (xs.map (·.data.toList)) []).toArray⟩
theorem u32s_size (xs : List Int) : (u32s xs).size = xs.length := by simp [u32s]
theorem u32s_all (xs : List Int) : (u32s xs).all (·.oneCell') = true := by
  simp [u32s]
  exact fun _ _ => rfl
set_option maxRecDepth 100000
set_option maxHeartbeats 3200000 in
theorem sum_any (bk o c : Nat) (xs : List ByteArray) (w : World) (hcells : ∀ (j : Nat) x, xs[j]? = some x → w.cell? ⟨bk, o + j, none⟩ = some (.string x)) (hbk : bk < w.heap.size) (hN : xs.length ≤ 140737488355328) (hcap : xs.length ≤ c)
    (hlen : (joined xs).size ≤ 1073741824) :
    Calls Tryd.prog 11 #[.slice (some ⟨bk, o, none⟩) xs.length c] w fun e w' => e = .returned (.string (shaS (joined xs))) ∧ Below w.heap.size w w' := by
  have HC := Lib.hid hcells
  clear hcells
  have hJoin : ∀ W0, Below w.heap.size w W0 → Calls Tryd.prog 25 #[.slice (some ⟨bk, o, none⟩) xs.length c, .string ⟨#[]⟩] W0 fun e w' => e = .returned (.string (joined xs)) ∧ Below W0.heap.size W0 w' := fun W0 hB0 =>
    Tryd.strings_Join bk o c xs ⟨#[]⟩ W0 (fun j x hj => (hB0.cell (p := ⟨bk, o + j, none⟩) hbk).trans (HC.out j x hj)) (Nat.lt_of_lt_of_le hbk hB0.size) hN hcap (show (joined xs).size ≤ _ by omega)
  refine callsIn_wide.1 (callsIn_of_wp_marks (n := 0) Tryd.func11 rfl trivial ((wpIn_wide).2 ?_))
  simp only [Tryd.ntmps11, List.size_toArray, List.length_cons, List.length_nil, Nat.reduceAdd, Nat.reduceSub, Array.replicate_succ, Array.replicate_zero, List.push_toArray, List.append_toArray, List.nil_append, List.cons_append]
  go_wp2_with (first
    | (go_at_call 21; refine (begin_any _).mono ?_; rintro e w1 ⟨rfl, hb1⟩)
    | (go_at_call 22; refine (keys_any _).mono ?_; rintro e w2 ⟨rfl, hb2⟩)
    | (refine wpList_store_row rfl 55 (.tmp 3) (.tmp 9) rfl _ h0L.cells rfl rfl 55 _ (block_old _ (block_new _ _ _ _ rfl) (by simp)) (by kernel_rfl) rfl (by kernel_rfl) ?_)
    | (refine wpList_store_row rfl 57 (.tmp 4) (.tmp 10) rfl _ (u32s ksL) rfl rfl 57 _ ((setRow_other _ _ _ _ (by simp)).trans (block_new _ _ _ _ (by first | omega | (simp; done) | (simp; omega)))) (by kernel_rfl) rfl (by kernel_rfl) ?_)
    | fail)
  generalize hW0 : (World.setRow _ _ (u32s ksL)) = W0
  have hB0 : Below w.heap.size w W0 := by
    have hz := hb1.size
    have hz2 := hb2.size
    rw [← hW0]
    refine below_setRow (below_setRow (((hb1.trans (hb2.mono hz)).alloc (by omega) _).alloc (by simp; omega) _) (by omega) _) (by omega) _
  have hH0 : W0.heap[w2.heap.size]? = some (.cells h0L.cells 55 (0, 0)) := by
    rw [← hW0, setRow_other _ _ _ _ (by omega)]
    exact setRow_heap _ _ _ _ _ _ (block_old _ (block_new _ _ _ _ rfl) (by simp))
  have hK0 : W0.heap[w2.heap.size + 1]? = some (.cells (u32s ksL) 57 (0, 0)) := by
    rw [← hW0]
    exact setRow_heap _ _ _ _ _ _ ((setRow_other _ _ _ _ (by simp)).trans (block_new _ _ _ _ (by first | omega | (simp; done) | (simp; omega))))
  have hz0 : W0.heap.size = w2.heap.size + 2 := by rw [← hW0]; simp
  have hzw : w.heap.size ≤ w2.heap.size := Nat.le_trans hb1.size hb2.size
  obtain ⟨H, hH⟩ : ∃ H, H = w2.heap.size := ⟨_, rfl⟩
  rw [← hH] at hH0 hK0 hz0 hzw ⊢
  clear hb1 hb2 hW0 hH
  have HH0 := Lib.hid hH0
  have HK0 := Lib.hid hK0
  clear hH0 hK0
  go_wp2_with (first
    | (go_at_call 25; refine (hJoin W0 hB0).mono ?_; rintro e w3 ⟨rfl, hb3⟩)
    | (go_at_call 24; refine (fill_any (joined xs) _ hlen).mono ?_; rintro e w4 ⟨rfl, hb4⟩)
    | (go_at_call 23; refine (blocksOf_any (filled (joined xs)) _).mono ?_; rintro e w5 ⟨rfl, hS5, hb5⟩)
    | fail)
  have hz3 := hb3.size
  have hz4 := hb4.size
  have hz5 := hb5.size
  have hS5l := lt_of_block' hS5
  have hb35 : Below W0.heap.size W0 w5 := hb3.trans ((hb4.mono hz3).trans (hb5.mono (Nat.le_trans hz3 hz4)))
  have hH5 := (hb35.block H (by omega)).trans HH0.out
  have hK5 := (hb35.block (H + 1) (by omega)).trans HK0.out
  have hB5 : Below w.heap.size w w5 := hB0.trans (hb35.mono (by omega))
  obtain ⟨Bs, hBs⟩ : ∃ Bs, Bs = w4.heap.size := ⟨_, rfl⟩
  rw [← hBs] at hS5 hS5l ⊢
  have hBsH : H + 2 ≤ Bs := by omega
  obtain ⟨t, ht⟩ : ∃ t, t = filled (joined xs) := ⟨_, rfl⟩
  rw [← ht] at hS5
  have HT := Lib.hid ht
  clear hb3 hb4 hb5 hb35 hz3 hz4 hz5 hBs ht HH0 HK0 hB0
  have HS5 := Lib.hid hS5
  have HH5 := Lib.hid hH5
  have HK5 := Lib.hid hK5
  clear hS5 hH5 hK5
  refine wp_range_blocks t Bs H 1 rfl rfl (by omega) (by omega)
    (fun k W => Below w.heap.size w W ∧ W.heap[H]? = some (.cells (hashF t k).cells 55 (0, 0)) ∧ W.heap[H + 1]? = some (.cells (u32s ksL) 57 (0, 0)))
    ?c1 ?c2 HS5.out ⟨hB5, HH5.out, HK5.out⟩ ?c3 ?c4
  case c1 =>
    rintro k A B ⟨h1, h2, h3⟩ ho
    refine ⟨⟨ho.os.trans h1.os, ho.tape.trans h1.tape, ho.output.trans h1.output, Nat.le_trans h1.size ho.size, fun b hb => (ho.block b (Nat.lt_of_lt_of_le hb h1.size) (by omega)).trans (h1.block b hb)⟩, (ho.block _ (lt_of_block' h2) (by omega)).trans h2, (ho.block _ (lt_of_block' h3) (by omega)).trans h3⟩
  case c2 =>
    rintro k A B ⟨h1, h2, h3⟩ ho
    exact ⟨h1.trans (ho.mono (by omega)), (ho.block _ (by omega)).trans h2, (ho.block _ (by omega)).trans h3⟩
  case c3 =>
    rintro l k W hk ⟨h1, h2, h3⟩ hW
    have HA := Lib.hid h1
    have HB := Lib.hid h2
    have HD := Lib.hid h3
    clear h1 h2 h3
    gi_wp2_with (first
      | (refine wpListIn_store_row rfl 57 (.tmp 5) (.tmp 15) rfl _ (u32s (wordsOf (sfx t k))) rfl rfl 57 _ (block_new _ _ _ _ rfl) (by rw [u32s_size, wordsOf_len]; kernel_rfl) (by rw [u32s_size, wordsOf_len]; rfl) (u32s_all _) ?_)
      | fail)
    refine ⟨⟨below_setRow (HA.out.alloc (by omega) _) (by omega) _, (setRow_other _ _ _ _ (by omega)).trans (block_old _ HB.out (by omega)), (setRow_other _ _ _ _ (by omega)).trans (block_old _ HD.out (by omega))⟩, ⟨by simp, fun b hb _ => (setRow_other _ _ _ _ (by omega)).trans (block_old _ rfl hb)⟩, ?_⟩
    intro W2 hz2 hW2 hi2
    obtain ⟨h1, h2, h3⟩ := hi2
    have h4 : W2.heap[W.heap.size]? = some (.cells (u32s (wordsOf (sfx t k))) 57 (0, 0)) := by
      rw [hW2 _ (by omega)]
      exact setRow_heap _ _ _ _ _ _ (block_new _ _ _ _ rfl)
    have HA2 := Lib.hid h1
    have HB2 := Lib.hid h2
    have HD2 := Lib.hid h3
    have HE2 := Lib.hid h4
    clear h1 h2 h3 h4 hW2 HA HB HD
    have hlen64 := wordsOf_len (sfx t k)
    gi_wp2_with (first
      | (refine wpListIn_load_row rfl 55 (.tmp 3) rfl H rfl 55 _ (0, 0) _ HB2.out Tryd.underlying55 rfl (by kernel_rfl) ?_)
      | (refine wpListIn_load_row rfl 57 (.tmp 4) rfl (H + 1) rfl 57 _ (0, 0) _ HD2.out Tryd.underlying57 rfl (by kernel_rfl) ?_)
      | (refine wpListIn_load_row rfl 57 (.tmp 5) rfl W.heap.size rfl 57 _ (0, 0) _ HE2.out Tryd.underlying57 rfl (by rw [u32s_size, hlen64]; kernel_rfl) ?_)
      | (refine ⟨trivial, ?_⟩; gi_at_call 26; refine CallsIn.inRound l (callsIn_wide.2 ((in_any (hashF t k) ksL (wordsOf (sfx t k)) W2 (hashF_ok t k) ksL_len hlen64).mono ?_)); rintro e W3 ⟨rfl, hb3⟩)
      | (refine wpListIn_store_row rfl 55 (.tmp 3) (.tmp 19) rfl _ (hashF t (k + 1)).cells rfl rfl 55 _ ((hb3.block H (lt_of_block' HB2.out)).trans HB2.out) (by kernel_rfl) rfl (by kernel_rfl) ?_)
      | fail)
    have hlt2 := lt_of_block' HB2.out
    refine ⟨⟨below_setRow (HA2.out.trans (hb3.mono HA2.out.size)) (by omega) _, ?_, (setRow_other _ _ _ _ (by omega)).trans ((hb3.block _ (lt_of_block' HD2.out)).trans HD2.out)⟩, ⟨?_, fun b hb hne => (setRow_other _ _ _ _ hne).trans (hb3.block b hb)⟩⟩
    · exact setRow_heap _ _ _ _ _ _ ((hb3.block H hlt2).trans HB2.out)
    · rw [setRow_size]; exact hb3.size
  case c4 =>
    rintro D W hD ⟨h1, h2, h3⟩ hDl hdf
    obtain ⟨x, hx⟩ : ∃ x, x = hashF t (t.size / 64) := ⟨_, rfl⟩
    rw [← hx] at h2
    have hxo : x.ok := by rw [hx]; exact hashF_ok _ _
    have hHl := lt_of_block' h2
    have HX := Lib.hid hx
    have HA := Lib.hid h1
    have HB := Lib.hid h2
    have HF := Lib.hid hdf
    clear h1 h2 h3 hdf hx
    go_wp2_with (first
      | (refine wpList_load_row rfl 55 (.tmp 3) rfl H rfl 55 _ (0, 0) _ (block_old _ HB.out hHl) Tryd.underlying55 rfl (by kernel_rfl) ?_)
      | fail)
    generalize hW0 : (World.alloc _ _) = W0
    have hsz : W0.heap.size = W.heap.size + 1 := by rw [← hW0]; simp
    have hb0 : Below W.heap.size W W0 := by rw [← hW0]; (repeat (first | exact Below.refl _ _ | assumption | refine Below.drew ?_ | refine below_drewN ?_ _ | refine Below.alloc ?_ (by first | omega | (simp; done) | (simp; omega) | (simp at *; omega)) _ | refine Below.setCell ?_ (by first | omega | (simp; done) | (simp; omega)) _ | refine Below.trans ?_ (Below.mono (by assumption) (by first | omega | (simp; done) | (simp; omega) | (simp at *; omega)))))
    have hI0 : IsB W.heap.size W.heap.size (Lib.byteCells (digestL x 0)) W0 := by
      refine Or.inl ⟨Nat.le_refl _, .slice none 0 0, ?_, ⟨rfl, Or.inl ⟨rfl, rfl⟩⟩, by intro h; cases h⟩
      rw [← hW0]; exact block_new _ _ _ _ rfl
    have HI0 := Lib.hid hI0
    have HZ0 := Lib.hid hsz
    clear hI0 hsz hW0
    go_loopg [21] 8 (fun g k wr => ∃ j : Nat, g = 8 - j ∧ j ≤ 8 ∧ k = .int .i64 j ∧ IsB W.heap.size W.heap.size (Lib.byteCells (digestL x j)) wr ∧ Below W.heap.size W wr)
    case atStart => exact ⟨0, rfl, by omega, rfl, HI0.out, hb0⟩
    case round =>
      obtain ⟨j, rfl, hj, rfl, hI, hb⟩ := hrel
      have HI := Lib.hid hI
      clear hI
      by_cases hjl : j < 8
      · obtain ⟨v, hv⟩ : ∃ v, v = x.get j := ⟨_, rfl⟩
        have hcv := fun w => run_index8 x j hjl w
        rw [← hv] at hcv
        have hv0 : 0 ≤ v ∧ v < 4294967296 := by rw [hv]; exact get_bd x hxo j
        obtain ⟨hv0, hv1⟩ := hv0
        have HV := Lib.hid hv
        clear hv
        go_wp2_with fail
        have hIl := isB_lt HI.out
        refine (write_any W.heap.size W.heap.size _ ⟨wr.heap.size, 0, none⟩ 4 4 [.int .u8 (v / 16777216), .int .u8 (v / 65536 % 256), .int .u8 (v / 256 % 256), .int .u8 (v % 256)] _ (isB_alloc HI.out _) rfl ?n1 (show wr.heap.size ≠ W.heap.size by omega) ?n2 (by rw [Lib.byteCells_length, digestL_length]; omega) (by simp; omega)).mono ?_
        case n1 =>
          intro i u hi
          have hbn := block_new wr #[.int .u8 (v / 16777216), .int .u8 (v / 65536 % 256), .int .u8 (v / 256 % 256), .int .u8 (v % 256)] 5 _ rfl
          match i, hi with
          | 0, hi => cases hi; exact (cell_of_block hbn 0).trans rfl
          | 1, hi => cases hi; exact (cell_of_block hbn 1).trans rfl
          | 2, hi => cases hi; exact (cell_of_block hbn 2).trans rfl
          | 3, hi => cases hi; exact (cell_of_block hbn 3).trans rfl
        case n2 =>
          intro u hu
          simp at hu
          rcases hu with rfl | rfl | rfl | rfl <;> rfl
        rintro e w6 ⟨rfl, hA6, hb6⟩
        have hb7 : Below W.heap.size W w6 := (hb.alloc (by omega) _).trans hb6
        have hA7 : BAt W.heap.size W.heap.size (Lib.byteCells (digestL x (j + 1))) w6 := by
          rw [digestL_next x j v HV.out hv0 hv1]; exact hA6
        have HA7 := Lib.hid hA7
        clear hA6 hA7 hb6
        go_wp2
        go_roundg (8 - (j + 1))
        case measure => omega
        case rel => exact ⟨j + 1, rfl, by omega, by go_num, Or.inr HA7.out, hb7⟩
      · obtain rfl : j = 8 := by omega
        rw [show ((8 : Nat) : Int) = 8 from rfl]
        go_wp2_with fail
        refine (Tryd.Builder_String_any W.heap.size W.heap.size _ _ HI.out hb.size).mono ?_
        rintro e w6 ⟨rfl, hb6⟩
        have HF6 := Lib.hid ((hb6.block _ hDl).trans ((hb.block _ hDl).trans HF.out))
        have HB6 := Lib.hid (HA.out.trans ((hb.trans hb6).mono HA.out.size))
        clear hb6 hb
        go_wp2
        refine ⟨by simp, .inl ⟨_, _, rfl, run_takeDeferred (hD ▸ HF6.out), ?_⟩⟩
        refine ⟨_, results_tmp rfl _ _ _, ?_, below_putObj HB6.out (by omega) _⟩
        show Ending.returned (.string ⟨(digestL x 8).toArray⟩) = _
        rw [HX.out, HT.out]
        rfl
end Go.Proofs.YtgjiicjbkmcecaaDoor
