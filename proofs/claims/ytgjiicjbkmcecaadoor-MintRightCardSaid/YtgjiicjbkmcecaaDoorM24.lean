import Derived.Test.YtgjiicjbkmcecaaDoorM23
namespace Go.Proofs.YtgjiicjbkmcecaaDoor
open Go.RowKit
set_option maxRecDepth 100000
theorem and63_i64 (n : Int) : bits .and .i64 n 63 = n % 64 := by
  have h : (BitVec.ofInt 64 63).toNat = 2 ^ 6 - 1 := by decide
  have key : (BitVec.ofInt 64 n &&& BitVec.ofInt 64 63).toNat = (n % ((2 ^ 64 : Nat) : Int)).toNat % 2 ^ 6 := by
    rw [BitVec.toNat_and, BitVec.toNat_ofInt, h, Nat.and_two_pow_sub_one_eq_mod]
  show IntKind.i64.wrap ((BitVec.ofInt 64 n &&& BitVec.ofInt 64 63).toNat : Nat) = n % 64
  rw [key, IntKind.wrap_i64]
  omega
theorem and39_i64 (n : Int) : bits .and .i64 n 549755813887 = n % 549755813888 := by
  have h : (BitVec.ofInt 64 549755813887).toNat = 2 ^ 39 - 1 := by decide
  have key : (BitVec.ofInt 64 n &&& BitVec.ofInt 64 549755813887).toNat = (n % ((2 ^ 64 : Nat) : Int)).toNat % 2 ^ 39 := by
    rw [BitVec.toNat_and, BitVec.toNat_ofInt, h, Nat.and_two_pow_sub_one_eq_mod]
  show IntKind.i64.wrap ((BitVec.ofInt 64 n &&& BitVec.ofInt 64 549755813887).toNat : Nat) = n % 549755813888
  rw [key, IntKind.wrap_i64]
  omega
/-- A small letter as a great one. -/
def upI (c : Nat) : Int := if 97 ≤ c ∧ c ≤ 122 then (c : Int) - 32 else c
def upB (b : UInt8) : UInt8 := UInt8.ofNat (upI b.toNat).toNat
/-- What is typed: great letters, a blank behind each. -/
def typedL : List UInt8 → List UInt8
  | [] => []
  | b :: l => upB b :: 32 :: typedL l
theorem typedL_append (l m : List UInt8) : typedL (l ++ m) = typedL l ++ typedL m := by
  induction l with
  | nil => rfl
  | cons b l ih => simp [typedL, ih]
theorem typedL_length (l : List UInt8) : (typedL l).length = 2 * l.length := by
  induction l with
  | nil => rfl
  | cons b l ih => simp [typedL, ih]; omega
theorem typed_byte : ∀ b : UInt8, plainB b → lowB (upB b) = b ∧ keepB b = true ∧ lowB b = b ∧ upB b < 128 := by
  have h : ∀ n : Fin 256, ((97 ≤ n.val ∧ n.val ≤ 122) ∨ (48 ≤ n.val ∧ n.val ≤ 57)) → lowB (upB (UInt8.ofNat n.val)) = UInt8.ofNat n.val ∧ keepB (UInt8.ofNat n.val) = true ∧ lowB (UInt8.ofNat n.val) = UInt8.ofNat n.val ∧ upB (UInt8.ofNat n.val) < 128 := by decide +kernel
  intro b hb
  have := h ⟨b.toNat, b.toNat_lt⟩ hb
  rwa [show UInt8.ofNat (Fin.val ⟨b.toNat, b.toNat_lt⟩) = b from UInt8.ofNat_toNat] at this
theorem clean_typed (l : List UInt8) (h : ∀ b ∈ l, plainB b) : cleanL (typedL l) = l := by
  induction l with
  | nil => rfl
  | cons b l ih =>
    have hb := typed_byte b (h b (List.mem_cons_self))
    have ih := ih (fun c hc => h c (List.mem_cons_of_mem _ hc))
    unfold cleanL at ih ⊢
    simp only [typedL, List.map_cons, hb.1, List.filter_cons, hb.2.1, if_true]
    rw [show keepB (lowB 32) = false from by decide, ih]
    rfl
theorem clean_plain (l : List UInt8) (h : ∀ b ∈ l, plainB b) : cleanL l = l := by
  induction l with
  | nil => rfl
  | cons b l ih =>
    have hb := typed_byte b (h b (List.mem_cons_self))
    have ih := ih (fun c hc => h c (List.mem_cons_of_mem _ hc))
    unfold cleanL at ih ⊢
    simp only [List.map_cons, hb.2.2.1, List.filter_cons, hb.2.1, if_true]
    rw [ih]
theorem typed_small (l : List UInt8) (h : ∀ b ∈ l, plainB b) : ∀ b ∈ typedL l, b < 128 := by
  induction l with
  | nil => intro b hb; cases hb
  | cons c l ih =>
    intro b hb
    rcases List.mem_cons.1 hb with rfl | hb
    · exact (typed_byte c (h c (List.mem_cons_self))).2.2.2
    · rcases List.mem_cons.1 hb with rfl | hb
      · decide
      · exact ih (fun c hc => h c (List.mem_cons_of_mem _ hc)) b hb
def typedS (l : List UInt8) (j : Nat) : ByteArray := ⟨(typedL (l.take j)).toArray⟩
theorem typedS_next (l : List UInt8) (j : Nat) (hj : j < l.length) : typedS l j ++ byteS (upI (l.getD j 0).toNat) ++ ⟨#[32]⟩ = typedS l (j + 1) := by
  refine ByteArray.ext ?_
  have e : l.take (j + 1) = l.take j ++ [l.getD j 0] := by
    rw [List.take_add_one, List.getD_eq_getElem?_getD, List.getElem?_eq_getElem hj]; rfl
  simp only [ByteArray.data_append, typedS, e, typedL_append, byteS]
  simp [typedL, upB]
theorem rem6 (pu : Int) : -5 ≤ pu.tmod 6 ∧ pu.tmod 6 ≤ 5 := by
  have h1 := Int.tmod_lt_of_pos pu (b := 6) (by decide)
  have h2 : -6 < pu.tmod 6 := by
    have := Int.lt_tmod_of_pos pu (b := 6) (by decide)
    omega
  omega
theorem rem6' (r : Int) (h : 0 ≤ r) : 0 ≤ r.tmod 6 ∧ r.tmod 6 ≤ 5 := by
  have h1 := Int.tmod_lt_of_pos r (b := 6) (by decide)
  have h2 := Int.tmod_nonneg 6 h
  omega
theorem keep9 {b c m N : Nat} {v0 v1 v2 v3 v4 v5 u1 u3 x : Value} {w W W' : World} (hb : Below W.heap.size W W') (h : ((W.cell? ⟨b, 0, none⟩ = some v0 ∧ W.cell? ⟨b, 1, none⟩ = some v1 ∧ W.cell? ⟨b, 2, none⟩ = some v2 ∧ W.cell? ⟨b, 3, none⟩ = some v3 ∧ W.cell? ⟨b, 4, none⟩ = some v4 ∧ W.cell? ⟨b, 5, none⟩ = some v5) ∧ W.cell? ⟨c, 1, none⟩ = some u1 ∧ W.cell? ⟨c, 3, none⟩ = some u3 ∧ W.cell? ⟨m, 0, none⟩ = some x ∧ Below N w W ∧ N ≤ W.heap.size ∧ b < W.heap.size ∧ c < W.heap.size ∧ m < W.heap.size)) :
    ((W'.cell? ⟨b, 0, none⟩ = some v0 ∧ W'.cell? ⟨b, 1, none⟩ = some v1 ∧ W'.cell? ⟨b, 2, none⟩ = some v2 ∧ W'.cell? ⟨b, 3, none⟩ = some v3 ∧ W'.cell? ⟨b, 4, none⟩ = some v4 ∧ W'.cell? ⟨b, 5, none⟩ = some v5) ∧ W'.cell? ⟨c, 1, none⟩ = some u1 ∧ W'.cell? ⟨c, 3, none⟩ = some u3 ∧ W'.cell? ⟨m, 0, none⟩ = some x ∧ Below N w W' ∧ N ≤ W'.heap.size ∧ b < W'.heap.size ∧ c < W'.heap.size ∧ m < W'.heap.size) := by
  obtain ⟨⟨h0, h1, h2, h3, h4, h5⟩, h6, h7, h8, h9, hN, lb, lc, lm⟩ := h
  have e := fun j => hb.cell (p := ⟨b, j, none⟩) lb
  have f := fun j => hb.cell (p := ⟨c, j, none⟩) lc
  have hs := hb.size
  exact ⟨⟨(e 0).trans h0, (e 1).trans h1, (e 2).trans h2, (e 3).trans h3, (e 4).trans h4, (e 5).trans h5⟩, (f 1).trans h6, (f 3).trans h7, (hb.cell (p := ⟨m, 0, none⟩) lm).trans h8, h9.trans (hb.mono hN), by omega, by omega, by omega, by omega⟩
theorem mr_facts {w W2 Wc w4 : World} {b bm N : Nat} {T : TypeId} {o : Obj} (hm : W2.heap[bm]? = some (.cells #[.int .i64 0] T (0, 0))) (hb : W2.heap[b]? = some o) (hne : b ≠ bm) (hW : Below W2.heap.size W2 Wc) (h4 : Below Wc.heap.size (tick (some bm) (0 + 1) Wc) w4) (hB : Below N w W2) (hN : N ≤ bm) :
    w4.heap[b]? = some o ∧ w4.heap[bm]? = some (.cells #[.int .i64 1] T (0, 0)) ∧ Below N w w4 := by
  have lb := lt_of_block' hb
  have lm := lt_of_block' hm
  have hs := hW.size
  have hbc := (hW.block b lb).trans hb
  have hmc := (hW.block bm lm).trans hm
  have hBc : Below N w Wc := hB.trans (hW.mono (by omega))
  exact ⟨(h4.block b (by omega)).trans ((tick_far (fun B h => by cases h; omega)).trans hbc), (h4.block bm (by omega)).trans (setCell_block hmc 0 _), ((hBc.setCell (p := ⟨bm, 0, none⟩) hN _).trans (h4.mono (by omega)))⟩
theorem fin_set {w w4 : World} {b bm b3 N : Nat} {T T3 : TypeId} {o : Obj} {a0 a1 a2 a3 a4 a5 : Value} (h : w4.heap[b]? = some o ∧ w4.heap[bm]? = some (.cells #[.int .i64 1] T (0, 0)) ∧ Below N w w4) (h3 : w4.heap[b3]? = some (.cells #[a0, a1, a2, a3, a4, a5] T3 (0, 0))) (hb : b ≠ b3) (hm : bm ≠ b3) (hN : N ≤ b3) (v0 v1 v2 v3 v4 v5 : Value) (W : World) (hW : W = ((((((w4.setCell ⟨b3, 0, none⟩ v0).setCell ⟨b3, 1, none⟩ v1).setCell ⟨b3, 2, none⟩ v2).setCell ⟨b3, 3, none⟩ v3).setCell ⟨b3, 4, none⟩ v4).setCell ⟨b3, 5, none⟩ v5)) :
    W.heap[b3]? = some (.cells #[v0, v1, v2, v3, v4, v5] T3 (0, 0)) ∧ W.heap[b]? = some o ∧ W.heap[bm]? = some (.cells #[.int .i64 1] T (0, 0)) ∧ Below N w W := by
  subst hW
  obtain ⟨h1, h2, h4⟩ := h
  exact ⟨set6g h3 _ _ _ _ _ _, setCell_far (setCell_far (setCell_far (setCell_far (setCell_far (setCell_far h1 hb _ _) hb _ _) hb _ _) hb _ _) hb _ _) hb _ _, setCell_far (setCell_far (setCell_far (setCell_far (setCell_far (setCell_far h2 hm _ _) hm _ _) hm _ _) hm _ _) hm _ _) hm _ _,
    (((((h4.setCell (p := ⟨b3, 0, none⟩) hN _).setCell (p := ⟨b3, 1, none⟩) hN _).setCell (p := ⟨b3, 2, none⟩) hN _).setCell (p := ⟨b3, 3, none⟩) hN _).setCell (p := ⟨b3, 4, none⟩) hN _).setCell (p := ⟨b3, 5, none⟩) hN _⟩
theorem fin_alloc {w w4 : World} {b bm N : Nat} {T T3 : TypeId} {o : Obj} {C : Array Value} (h : w4.heap[b]? = some o ∧ w4.heap[bm]? = some (.cells #[.int .i64 1] T (0, 0)) ∧ Below N w w4) (hN : N ≤ w4.heap.size) (W : World) (hW : W = w4.alloc (.cells C T3)) :
    W.heap[w4.heap.size]? = some (.cells C T3 (0, 0)) ∧ W.heap[b]? = some o ∧ W.heap[bm]? = some (.cells #[.int .i64 1] T (0, 0)) ∧ Below N w W := by
  subst hW
  obtain ⟨h1, h2, h4⟩ := h
  exact ⟨block_new _ _ _ _ rfl, block_old _ h1 (lt_of_block' h1), block_old _ h2 (lt_of_block' h2), h4.alloc hN _⟩
theorem keep3 {b N : Nat} {v : Value} {w W W' : World} (hb : Below W.heap.size W W') (h : (W.cell? ⟨b, 0, none⟩ = some v ∧ Below N w W ∧ N ≤ W.heap.size ∧ b < W.heap.size)) :
    (W'.cell? ⟨b, 0, none⟩ = some v ∧ Below N w W' ∧ N ≤ W'.heap.size ∧ b < W'.heap.size) := by
  obtain ⟨h1, h2, h3, h4⟩ := h
  have hs := hb.size
  exact ⟨(hb.cell (p := ⟨b, 0, none⟩) h4).trans h1, h2.trans (hb.mono h3), by omega, by omega⟩
theorem sum2 (bk : Nat) (P C : ByteArray) (w : World) (h0 : w.cell? ⟨bk, 0, none⟩ = some (.string P)) (h1 : w.cell? ⟨bk, 1, none⟩ = some (.string C)) (hbk : bk < w.heap.size) (hlen : P.size + C.size ≤ 1073741824) :
    Calls Tryd.prog 11 #[.slice (some ⟨bk, 0, none⟩) 2 2] w fun e w' => e = .returned (.string (shaS (P ++ C))) ∧ Below w.heap.size w w' := by
  have := sum_any bk 0 2 [P, C] w (fun j x hj => by
    match j, hj with
    | 0, hj => cases hj; simpa using h0
    | 1, hj => cases hj; simpa using h1) hbk (show 2 ≤ _ by decide) (Nat.le_refl _) (by rw [joined2, ByteArray.size_append]; exact hlen)
  rw [joined2] at this
  exact this
theorem digest_none (p : Int) (s : ByteArray) (l : List UInt8) (hl : l = s.data.toList) (w : World) (hp0 : 0 ≤ p) (hp1 : p < 256) (hs : s.size ≤ 1000000) (hasc : ∀ b ∈ l, b < 128) :
    Calls Tryd.prog 10 #[.pointer none, .int .i64 p, .string s] w fun e w' => e = .returned (.string (digestF p l)) ∧ Below w.heap.size w w' :=
  digest_any none 0 p s l hl w (fun B h => by cases h) hp0 hp1 hs hasc
theorem digestF_typed (p : Int) (l : List UInt8) (h : ∀ b ∈ l, plainB b) : digestF p (typedL l) = digestF p l := by
  unfold digestF; rw [clean_typed l h, clean_plain l h]
theorem digestF_plain (p : Int) (P : ByteArray) (l : List UInt8) (hP : P = ⟨l.toArray⟩) (h : ∀ b ∈ l, plainB b) : shaS (byteS p ++ P) = digestF p l := by
  unfold digestF; rw [clean_plain l h, hP]
theorem plainB_small {l : List UInt8} (h : ∀ b ∈ l, plainB b) : ∀ b ∈ l, b < 128 := by
  intro b hb
  rw [UInt8.lt_iff_toNat_lt]
  rcases h b hb with h | h
  · exact Nat.lt_of_le_of_lt h.2 (by decide)
  · exact Nat.lt_of_le_of_lt h.2 (by decide)
end Go.Proofs.YtgjiicjbkmcecaaDoor
