import Derived.Test.YtgjiicjbkmcecaaDoorM12
namespace Go.Proofs.YtgjiicjbkmcecaaDoor
open Go.RowKit
theorem wraps_i64 (n : Int) (h₀ : 0 ≤ n) (h₁ : n < 2 ^ 62) : IntKind.i64.wrap n = n := by rw [IntKind.wrap_i64]; omega
theorem w64 (n : Int) (h₀ : 0 ≤ n) (h₁ : n < 2 ^ 62) : wrap64 n = n := by unfold wrap64; omega
theorem or_join (x k m : Nat) (hx : x * 2 ^ k < 2 ^ 62) (hm : m < 2 ^ k) (hm' : m < 2 ^ 62) : bits BinOp.or IntKind.i64 ((x : Int) * 2 ^ k) (m : Int) = ((x * 2 ^ k + m : Nat) : Int) := by
  have e : ((x : Int) * 2 ^ k) = ((x * 2 ^ k : Nat) : Int) := by rw [Int.natCast_mul, Int.natCast_pow]; rfl
  rw [e, bits_join .i64 62 (by decide) wraps_i64 k _ _ (Int.natCast_nonneg _) (by exact_mod_cast Nat.mul_mod_left x (2 ^ k)) (by exact_mod_cast hx) (Int.natCast_nonneg _) (by exact_mod_cast hm) (by exact_mod_cast hm')]
  omega
theorem and31i (z : Nat) (h : z < 2 ^ 62) : bits BinOp.and IntKind.i64 (z : Int) 31 = ((z % 32 : Nat) : Int) := by
  have := bits_mask .i64 62 (by decide) wraps_i64 5 (by decide) z (Int.natCast_nonneg _) (by exact_mod_cast h)
  rw [show (2 : Int) ^ 5 - 1 = 31 by decide] at this
  rw [this]
  norm_cast
theorem andmask (z r : Nat) (hr : r ≤ 62) (h : z < 2 ^ 62) : bits BinOp.and IntKind.i64 (z : Int) (2 ^ r - 1) = ((z % 2 ^ r : Nat) : Int) := by
  rw [bits_mask .i64 62 (by decide) wraps_i64 r hr z (Int.natCast_nonneg _) (by exact_mod_cast h)]
  norm_cast
def digs : ByteArray := ⟨#[97, 98, 99, 100, 101, 102, 103, 104, 105, 106, 107, 108, 109, 110, 111, 112, 113, 114, 115, 116, 117, 118, 119, 120, 121, 122, 50, 51, 52, 53, 54, 55]⟩
def dig32 (v : Nat) : UInt8 := digs.data.getD v 0
theorem digs_at (v : Nat) (hv : v < 32) (h : v < digs.size) : digs[v]'h = dig32 v := by
  show digs.data[v]'_ = _
  rw [dig32, Array.getD_eq_getD_getElem?, Array.getElem?_eq_getElem (show v < digs.data.size from hv)]
  rfl
/-- The digits of a number of N bits, the first n of them. -/
def encD (Y N n : Nat) : List UInt8 := (List.range n).map fun i => dig32 (Y / 2 ^ (N - 5 * (i + 1)) % 32)
theorem encD_next (Y N n : Nat) : encD Y N (n + 1) = encD Y N n ++ [dig32 (Y / 2 ^ (N - 5 * (n + 1)) % 32)] := by simp [encD, List.range_succ]
/-- What put keeps: the two numbers, and the builder. -/
structure EncAt (B0 b1 b2 b3 : Nat) (x n : Nat) (l : List UInt8) (w : World) : Prop where
  h1 : w.heap[b1]? = some (.cells #[.int .i64 x] 3 (0, 0))
  h2 : w.heap[b2]? = some (.cells #[.int .i64 n] 3 (0, 0))
  h3 : IsB B0 b3 (Lib.byteCells l) w
theorem bAt_set {B b : Nat} {p : Value} {bs : List Value} {w : World} (h : Lib.BuilderAt 66 5 B b p bs w) {k : Nat} {c : Array Value} {T : TypeId} {f : Nat × Nat} (hk : w.heap[k]? = some (.cells c T f)) (hT : T ≠ 5) (hkb : k ≠ b) (j : Nat) (v : Value) :
    Lib.BuilderAt 66 5 B b p bs (w.setCell ⟨k, j, none⟩ v) := by
  obtain ⟨hB, v', hb, hown, hne⟩ := h
  refine ⟨hB, v', setCell_far hb (Ne.symm hkb) j v, ⟨hown.1, hown.2.imp id ?_⟩, hne⟩
  rintro ⟨g, cap, cur, h1, h2, h3, h4⟩
  refine ⟨g, cap, cur, h1, h2, setCell_far h3 ?_ j v, h4⟩
  rintro rfl
  rw [h3] at hk
  cases hk
  exact hT rfl
theorem isB_set {B b : Nat} {bs : List Value} {w : World} (h : IsB B b bs w) {k : Nat} {c : Array Value} {T : TypeId} {f : Nat × Nat} (hk : w.heap[k]? = some (.cells c T f)) (hT : T ≠ 5) (hkb : k ≠ b) (j : Nat) (v : Value) :
    IsB B b bs (w.setCell ⟨k, j, none⟩ v) := h.imp (bAt_set · hk hT hkb j v) (bAt_set · hk hT hkb j v)
theorem bAt_drew {B b : Nat} {p : Value} {bs : List Value} {w : World} (h : Lib.BuilderAt 66 5 B b p bs w) : Lib.BuilderAt 66 5 B b p bs w.drew := h
theorem isB_drew {B b : Nat} {bs : List Value} {w : World} (h : IsB B b bs w) : IsB B b bs w.drew := h.imp bAt_drew bAt_drew
theorem pow_le62 {a b : Nat} (h : a ≤ b) : 2 ^ a ≤ 2 ^ b := Nat.pow_le_pow_right (by decide) h
theorem wrap_small (P : Nat) (h0 : 1 ≤ P) (h1 : P ≤ 4096) : wrap64 (P : Int) = P ∧ wrap64 ((P : Int) - 1) = (P : Int) - 1 := by
  unfold wrap64
  omega
theorem wrap_pow (c : Nat) (hc : c ≤ 12) : wrap64 ((2 : Int) ^ c) = 2 ^ c ∧ wrap64 ((2 : Int) ^ c - 1) = 2 ^ c - 1 := by
  have h := wrap_small (2 ^ c) Nat.one_le_two_pow (pow_le62 hc)
  have e : (((2 ^ c : Nat)) : Int) = (2 : Int) ^ c := by rw [Int.natCast_pow]; rfl
  rw [e] at h
  exact h
set_option maxRecDepth 100000
set_option maxHeartbeats 6400000 in
theorem put_any (B0 b1 b2 b3 : Nat) (x more : Nat) (n k : Nat) (l : List UInt8) (w : World) (h : EncAt B0 b1 b2 b3 x n l w) (hx : x < 2 ^ n) (hm : more < 2 ^ k) (hn : n < 5) (hk : k ≤ 8)
    (hB : b3 = B0) (h1 : b1 = B0 + 1) (h2 : b2 = B0 + 2) (hB0 : B0 + 2 < w.heap.size) (hl : l.length ≤ 1000) :
    Calls Tryd.prog 58 #[.int .i64 more, .int .i64 k, .pointer (some ⟨b1, 0, none⟩), .pointer (some ⟨b2, 0, none⟩), .pointer (some ⟨b3, 0, none⟩)] w fun e w' => e = .returned (.tuple #[]) ∧ EncAt B0 b1 b2 b3 ((x * 2 ^ k + more) % 2 ^ ((n + k) % 5)) ((n + k) % 5) (l ++ encD (x * 2 ^ k + more) (n + k) ((n + k) / 5)) w' ∧ Below B0 w w' := by
  subst hB h1 h2
  obtain ⟨h1, h2, h3⟩ := h
  have c1 := (cell_of_block h1 0).trans rfl
  have c2 := (cell_of_block h2 0).trans rfl
  have f1 := free_of_block h1 0
  have f2 := free_of_block h2 0
  have hpow : x * 2 ^ k + more < 2 ^ (n + k) := by
    rw [Nat.pow_add]
    have : (x + 1) * 2 ^ k ≤ 2 ^ n * 2 ^ k := Nat.mul_le_mul_right _ hx
    rw [Nat.add_mul, Nat.one_mul] at this
    omega
  have hnk : n + k ≤ 12 := by omega
  have hp12 : 2 ^ (n + k) ≤ 2 ^ 12 := pow_le62 hnk
  have hY : x * 2 ^ k + more < 4096 := Nat.lt_of_lt_of_le hpow hp12
  have hor := or_join x k more (by omega) hm (by omega)
  have hxk : x * 2 ^ k < 4096 := by omega
  have hw1 : IntKind.i64.wrap ((x : Int) * 2 ^ k) = (x : Int) * 2 ^ k := by
    have e : ((x : Int) * 2 ^ k) = ((x * 2 ^ k : Nat) : Int) := by rw [Int.natCast_mul, Int.natCast_pow]; rfl
    rw [e]; exact wraps_i64 _ (Int.natCast_nonneg _) (by omega)
  obtain ⟨Y, hYe⟩ : ∃ Y, Y = x * 2 ^ k + more := ⟨_, rfl⟩
  rw [← hYe] at hor hY hpow
  have H1 := Lib.hid h1
  have H2 := Lib.hid h2
  have H3 := Lib.hid h3
  have HY := Lib.hid hYe
  have HP := Lib.hid hpow
  clear h1 h2 h3 hYe hpow hp12
  go_enter Tryd.func58, Tryd.ntmps58
  go_wp2
  go_region
  all_goals go_wp2
  generalize hW0 : World.drew _ = W0
  have hI0 : EncAt b3 (b3 + 1) (b3 + 2) b3 Y (n + k) (l ++ encD Y (n + k) 0) W0 := by
    rw [← hW0]
    refine ⟨?_, ?_, ?_⟩
    · show (World.setCell _ _ _).heap[b3 + 1]? = _
      rw [setCell_far (o := some (.cells #[.int .i64 Y] 3 (0, 0))) (by exact setCell_block H1.out 0 _) (by omega)]
    · exact setCell_block (setCell_far H2.out (by omega) 0 _) 0 _
    · refine isB_drew (isB_set (isB_set ?_ H1.out (by decide) (by omega) _ _) (setCell_far H2.out (by omega) 0 _) (by decide) (by omega) _ _)
      simpa [encD] using H3.out
  have hb0 : Below b3 w W0 := by rw [← hW0]; exact (((Below.refl _ w).setCell (p := ⟨b3 + 1, 0, none⟩) (by simp) _).setCell (p := ⟨b3 + 2, 0, none⟩) (by simp) _).drew
  have HI0 := Lib.hid hI0
  clear hI0 hW0 c1 c2 f1 f2 hor hw1 H1 H2 H3
  go_loopg [] ((n + k) / 5) (fun g wr => ∃ i : Nat, g = (n + k) / 5 - i ∧ i ≤ (n + k) / 5 ∧ EncAt b3 (b3 + 1) (b3 + 2) b3 Y (n + k - 5 * i) (l ++ encD Y (n + k) i) wr ∧ Below b3 w wr)
  case atStart => exact ⟨0, rfl, by omega, HI0.out, hb0⟩
  case round =>
    obtain ⟨i, rfl, hi, hI, hb⟩ := hrel
    obtain ⟨⟨h1, h2, h3⟩, hsz⟩ : EncAt b3 (b3 + 1) (b3 + 2) b3 Y (n + k - 5 * i) (l ++ encD Y (n + k) i) wr ∧ True := ⟨hI, trivial⟩
    obtain ⟨c, hc⟩ : ∃ c, c = n + k - 5 * i := ⟨_, rfl⟩
    rw [← hc] at h2
    have c1 : wr.cell? ⟨b3 + 1, 0, none⟩ = some (.int .i64 Y) := (cell_of_block h1 0).trans rfl
    have c2 : wr.cell? ⟨b3 + 2, 0, none⟩ = some (.int .i64 c) := (cell_of_block h2 0).trans rfl
    have f1 := free_of_block h1 0
    have f2 := free_of_block h2 0
    have H1 := Lib.hid h1
    have H2 := Lib.hid h2
    have H3 := Lib.hid h3
    have HC := Lib.hid hc
    clear h1 h2 h3 hI hc
    have hc12 : c ≤ 12 := by have := HC.out; omega
    by_cases hlt : 5 ≤ c
    · obtain ⟨r, hr⟩ : ∃ r, r = c - 5 := ⟨_, rfl⟩
      have hrc : (c : Int) - 5 = (r : Int) := by omega
      have hd : decide ((5 : Int) ≤ (c : Int)) = true := by simp; omega
      obtain ⟨z, hz⟩ : ∃ z, z = Y / 2 ^ r := ⟨_, rfl⟩
      have hzY : (Y : Int) / 2 ^ r = (z : Int) := by rw [hz, Int.natCast_ediv, Int.natCast_pow]; rfl
      have hz4 : z < 4096 := by rw [hz]; exact Nat.lt_of_le_of_lt (Nat.div_le_self _ _) hY
      have h31 := and31i z (by omega)
      have HR := Lib.hid hr
      have HZ := Lib.hid hz
      clear hr hz
      go_wp2_with fail
      have hI3 : IsB b3 b3 (Lib.byteCells (l ++ encD Y (n + k) i)) (wr.setCell ⟨b3 + 2, 0, none⟩ (.int .i64 r)) := isB_set H3.out H2.out (by decide) (by omega) _ _
      have hll : (l ++ encD Y (n + k) i).length ≤ 1012 := by rw [List.length_append, encD, List.length_map, List.length_range]; omega
      refine (writeByte_any' b3 b3 _ _ _ hI3 (by rw [Lib.byteCells_length]; omega) (by rw [size_setCell]; exact Nat.le_trans (by omega) hb.size)).mono ?_
      rintro e w3 ⟨rfl, hA3, hb3, hk3⟩
      have hb3' : Below b3 w w3 := (hb.setCell (p := ⟨b3 + 2, 0, none⟩) (by simp) _).trans hb3
      have hE : EncAt b3 (b3 + 1) (b3 + 2) b3 Y (n + k - 5 * (i + 1)) (l ++ encD Y (n + k) (i + 1)) w3 := by
        have e1 := setCell_far H1.out (show b3 + 1 ≠ b3 + 2 by omega) 0 (.int .i64 r)
        have e2 := setCell_block H2.out 0 (.int .i64 r)
        refine ⟨(hk3 _ _ _ _ e1 (by decide) (by omega)).trans e1, ?_, Or.inr ?_⟩
        · rw [hk3 _ _ _ _ e2 (by decide) (by omega), e2]
          have : r = n + k - 5 * (i + 1) := by rw [HR.out, HC.out]; omega
          rw [← this]; rfl
        · rw [encD_next, ← List.append_assoc, Lib.byteCells, List.map_append]
          have er : n + k - 5 * (i + 1) = r := by rw [HR.out, HC.out]; omega
          rw [er, ← HZ.out, ← digs_at (z % 32) (Nat.mod_lt _ (by decide)) (Nat.mod_lt _ (by decide))]
          exact hA3
      have HE := Lib.hid hE
      have hi5 : i < (n + k) / 5 := by have := HC.out; omega
      clear hA3 hb3 hk3 hE hI3
      go_wp2
      go_roundg ((n + k) / 5 - (i + 1))
      case measure => omega
      case rel => exact ⟨i + 1, rfl, by omega, HE.out, hb3'⟩
    · have hd : decide ((5 : Int) ≤ (c : Int)) = false := by simp; omega
      have hcr : c = (n + k) % 5 := by have := HC.out; omega
      have hi5 : i = (n + k) / 5 := by have := HC.out; omega
      have hmk := andmask Y c (by omega) (by omega)
      obtain ⟨hwp, hwq⟩ := wrap_pow c hc12
      have HCR := Lib.hid hcr
      have HI5 := Lib.hid hi5
      clear hcr hi5 hc12 hnk hlt
      go_wp2_with fail
      go_region
      all_goals go_wp2
      have hval : bits BinOp.and IntKind.i64 (Y : Int) (wrap64 (wrap64 ((2 : Int) ^ min c 64) - 1)) = ((Y % 2 ^ c : Nat) : Int) := by
        rw [show min c 64 = c by have := HCR.out; omega, hwp, hwq, hmk]
      rw [hval]
      go_end0
      rw [← HY.out, ← HCR.out, ← HI5.out]
      have e2 : n + k - 5 * i = c := HC.out.symm
      refine ⟨rfl, ⟨setCell_block H1.out 0 _, ?_, isB_drew (isB_set H3.out H1.out (by decide) (by omega) _ _)⟩, (hb.setCell (p := ⟨b3 + 1, 0, none⟩) (by simp) _).drew⟩
      exact setCell_far H2.out (by omega) 0 _
end Go.Proofs.YtgjiicjbkmcecaaDoor
