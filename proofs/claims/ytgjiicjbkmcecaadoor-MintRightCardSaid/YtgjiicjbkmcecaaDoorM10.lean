import Derived.Test.YtgjiicjbkmcecaaDoorM9
import Derived.RangeFuncKeeps
import Derived.RangeFuncLeaves
namespace Go.Proofs.YtgjiicjbkmcecaaDoor
open Go.RowKit
theorem wpIn_store_row {F : Fence} {n : Nat} {P : Program} {o : Oper} {a : Act} {w : World} {K : Act → World → Prop} {Q : Exit → Act → World → Prop} (ty : TypeId) (x y : Operand) (ho : o.op = .store ty x y)
    (g : Nat) (cells : Array Value) (hx : a.eval x = .pointer (some ⟨g, 0, none⟩)) (hy : a.eval y = .agg cells)
    (t : TypeId) (old : Array Value) (hg : w.heap[g]? = some (.cells old t (0, 0))) (hi : (P.info? ty).map (·.size) = some cells.size)
    (hold : old.size = cells.size) (h1 : cells.all (·.oneCell') = true)
    (h : K (a.put o.dst undef) (w.setRow g cells)) : o.wpIn F n P a w K Q := by
  unfold Oper.wpIn
  have hs : o.semAt F.round a.eval = execOp a.eval o := by
    unfold Oper.semAt
    cases F.round <;> simp [ho]
  rw [hs]
  unfold execOp
  simp only [ho, hx, hy, Instr.storeAt, Instr.sureAddr, Sem.run_bind, Sem.run_pure, Result.andThen_ok, run_storeVar_row w g t ty old cells hg hi hold h1]
  exact ⟨fun f hf => by simp [Oper.about, ho] at hf, h⟩
theorem wpListIn_store_row {F : Fence} {n : Nat} {P : Program} {ops : Array Oper} {rest : List Oper} {o : Oper} {a : Act} {w : World} {Q : Exit → Act → World → Prop} (hgd : o.guard = none) (ty : TypeId) (x y : Operand) (ho : o.op = .store ty x y)
    (g : Nat) (cells : Array Value) (hx : a.eval x = .pointer (some ⟨g, 0, none⟩)) (hy : a.eval y = .agg cells)
    (t : TypeId) (old : Array Value) (hg : w.heap[g]? = some (.cells old t (0, 0))) (hi : (P.info? ty).map (·.size) = some cells.size)
    (hold : old.size = cells.size) (h1 : cells.all (·.oneCell') = true)
    (h : wpListIn F n P ops Q rest (a.put o.dst undef) (w.setRow g cells)) : wpListIn F n P ops Q (o :: rest) a w :=
  wpListIn_plain hgd fun _ hK => wpIn_store_row ty x y ho g cells hx hy t old hg hi hold h1 (hK _ _ h)
theorem size_putObj' (w : World) (l : Nat) (o : Obj) : (w.putObj l o).heap.size = w.heap.size := by simp [World.putObj]
theorem heap_putObj_ne {w : World} {l k : Nat} (o : Obj) (h : k ≠ l) : (w.putObj l o).heap[k]? = w.heap[k]? := World.putObj_heap_other h
theorem below_putObj {B l : Nat} {A W : World} (h : Below B A W) (hl : B ≤ l) (o : Obj) : Below B A (W.putObj l o) :=
  ⟨h.os, h.tape, h.output, by rw [size_putObj']; exact h.size, fun b hb => (heap_putObj_ne o (by omega)).trans (h.block b hb)⟩
/-- What a round keeps, of what was there. -/
structure Keeps (H : Nat) (A B : World) : Prop where
  size : A.heap.size ≤ B.heap.size
  block : ∀ b, b < A.heap.size → b ≠ H → B.heap[b]? = A.heap[b]?
/-- A RANGE OVER sha.blocks: the body keeps what it says, but for one block H. -/
theorem wp_range_blocks {g : Operand} {ps : Array Tmp} {assign body : Code} {Q : Exit → Act → World → Prop} {a : Act} {w : World} (t : ByteArray) (Bs H m : Nat)
    (hg : a.eval g = .func (.func 36) #[] #[.pointer (some ⟨Bs, 0, none⟩)]) (hps : ps.size = 1) (hH : H < w.heap.size) (hHB : H ≠ Bs)
    (I : Nat → World → Prop) (hI : ∀ k A B, I k A → OnlyB Bs A B → I k B) (hIp : ∀ k A B, I k A → Below w.heap.size A B → I k B)
    (hBs : w.heap[Bs]? = some (.cells #[.string t] 9 (0, 0))) (h0 : I 0 w)
    (hround : ∀ (l k : Nat) (W : World), k < t.size / 64 → I k W → w.heap.size + 2 ≤ W.heap.size →
      assign.wpIn (Fence.wide.inRound l) m Tryd.prog (Exit.then (fun a1 W1 => I k W1 ∧ Keeps H W W1 ∧ ∀ W2, W2.heap.size = W1.heap.size → (∀ b, b ≠ w.heap.size + 1 → W2.heap[b]? = W1.heap[b]?) → I k W2 →
        body.wpIn (Fence.wide.inRound l) m Tryd.prog (fun e _ W3 => e = .normal ∧ I (k + 1) W3 ∧ Keeps H W2 W3) a1 W2) (fun _ _ _ => False))
        { tmps := (ps.zip #[.agg (u32s (wordsOf (sfx t k)))]).foldl (fun t (p, v) => t.setIfInBounds p v) a.tmps, defers := [] } W)
    (hdone : ∀ (D : Nat) (W : World), D = w.heap.size → I (t.size / 64) W → D < W.heap.size → W.heap[D]? = some (.deferred (some [])) → Q .normal { a with defers := { target := .collected D, args := #[] } :: a.defers } W) :
    (Code.rangeFunc g ps assign body).wp Tryd.prog Q a w := by
  refine (wpIn_wide (n := m + 1)).1 (wpIn_rangeFunc ?_)
  intro fn hfn
  rw [Fence.wide_round]
  obtain ⟨rec, hrec⟩ : ∃ rec : LoopState → Option Code → Loop, rec = fun st pe => { state := st, pending := pe, fn, tmps := a.tmps, params := ps, assign, body, defers := w.heap.size } := ⟨_, rfl⟩
  obtain ⟨W1, hW1⟩ : ∃ W1, (w.alloc (.deferred (some []))).alloc (.loop (rec .ready none)) = W1 := ⟨_, rfl⟩
  have hL1 : W1.heap[w.heap.size + 1]? = some (.loop (rec .ready none)) := by
    rw [← hW1]; have := World.alloc_heap_new (w.alloc (.deferred (some []))) (.loop (rec .ready none)); rwa [World.size_alloc] at this
  have hK1 : W1.heap[w.heap.size]? = some (.deferred (some [])) := by
    rw [← hW1]; exact (Below.heap_alloc _ _ _ (by simp)).trans (World.alloc_heap_new w _)
  have hb1 : Below w.heap.size w W1 := by
    rw [← hW1]; exact (((Below.refl _ w).alloc (Nat.le_refl _) _).alloc (by simp) _)
  have hBsl : Bs < w.heap.size := lt_of_block' hBs
  refine ⟨w.heap.size + 1, [{ target := .collected w.heap.size, args := #[] }], W1, { target := .fn (.func 36) #[.pointer (some ⟨Bs, 0, none⟩)], args := #[.func (.yield (w.heap.size + 1)) #[] #[]] }, W1, 36,
    #[.func (.yield (w.heap.size + 1)) #[] #[]] ++ #[.pointer (some ⟨Bs, 0, none⟩)], W1, ?_, ?_, fun _ _ => trivial, ?_, fun _ => Nat.succ_le_succ (Nat.zero_le _), ?_⟩
  · rw [← hW1, hrec]; exact run_enterLoop_outer _ _ _ _ _
  · simp only [resolve, hg]
    simp [go_sem]
  · have eg := enters_of (P := Tryd.prog) Tryd.func36 (by kernel_rfl) rfl
    simp [invoke, go_sem, eg]
  · refine callsIn_wide.2 ?_
    refine (blocks_any t (w.heap.size + 1) Bs m
      (fun k W => I k W ∧ W.heap[w.heap.size + 1]? = some (.loop (rec .ready none)) ∧ W.heap[w.heap.size]? = some (.deferred (some []))) W1 ?ins ?yield ((hb1.block _ hBsl).trans hBs) ⟨hIp _ _ _ h0 hb1, hL1, hK1⟩).mono ?_
    case ins =>
      rintro k A B ⟨h1, h2, h3⟩ ho
      exact ⟨hI _ _ _ h1 ho, (ho.block _ (lt_of_block' h2) (by omega)).trans h2, (ho.block _ (lt_of_block' h3) (by omega)).trans h3⟩
    case yield =>
      rintro k W hk ⟨hi, hl, hd⟩ hS
      have hlt : w.heap.size + 1 < W.heap.size := lt_of_block' hl
      have hy := run_yield (P := Tryd.prog) (args := #[.agg (u32s (wordsOf (sfx t k)))]) hl (by rw [hrec]; exact hps.symm)
      rw [hrec] at hy
      refine ⟨fn, _, assign, body, hy, roundIn_of_wpIn hfn (wpIn_mono (hround (w.heap.size + 1) k W hk hi (by omega)) ?_)⟩
      rintro e a1 W1' hp
      cases e with
      | normal =>
        obtain ⟨hi1, hk1, hbody⟩ := hp
        have hl1 := (hk1.block _ hlt (by omega)).trans hl
        have hd1 := (hk1.block _ (Nat.lt_of_succ_lt hlt) (by omega)).trans hd
        have hS1 := (hk1.block _ (lt_of_block' hS) hHB.symm).trans hS
        refine ⟨_, run_beginRound hl1 (by rw [hrec]), ?_⟩
        have hlt1 := lt_of_block' hl1
        have hl2 : (W1'.putObj (w.heap.size + 1) (.loop { rec .ready none with state := .busy })).heap[w.heap.size + 1]? = some (.loop { rec .ready none with state := .busy }) := World.putObj_heap_same hlt1
        have hd2 := (heap_putObj_ne (w := W1') (l := w.heap.size + 1) (k := w.heap.size) (.loop { rec .ready none with state := .busy }) (by omega)).trans hd1
        have hS2 := (heap_putObj_ne (w := W1') (l := w.heap.size + 1) (k := Bs) (.loop { rec .ready none with state := .busy }) (by omega)).trans hS1
        refine wpIn_mono (hbody _ (size_putObj' _ _ _) (fun b hb => heap_putObj_ne _ hb) (hIp _ _ _ hi1 (below_putObj (Below.refl _ _) (by omega) _))) ?_
        rintro e a3 W3 ⟨rfl, hi3, hk3⟩
        have hl3 := (hk3.block _ (lt_of_block' hl2) (by omega)).trans hl2
        have hd3 := (hk3.block _ (lt_of_block' hd2) (by omega)).trans hd2
        have hS3 := (hk3.block _ (lt_of_block' hS2) hHB.symm).trans hS2
        have hr := run_endRound (P := Tryd.prog) none hl3
        refine ⟨_, _, hr, rfl, ⟨hIp _ _ _ hi3 (below_putObj (Below.refl _ _) (by omega) _), ?_, ?_⟩, ?_⟩
        · rw [hrec] at *
          exact World.putObj_heap_same (lt_of_block' hl3)
        · exact (heap_putObj_ne _ (by omega)).trans hd3
        · exact (heap_putObj_ne _ (by omega)).trans (hS3.trans hS.symm)
      | _ => exact hp.elim
    · rintro e W2 ⟨rfl, hi, hl, hd⟩
      refine ⟨none, _, by have := run_endLoop (P := Tryd.prog) hl (by rw [hrec]; simp); rw [hrec] at this; exact this, ?_⟩
      exact hdone _ _ rfl (hIp _ _ _ hi (below_putObj (Below.refl _ _) (by omega) _)) (by rw [size_putObj']; exact lt_of_block' hd) ((heap_putObj_ne _ (by omega)).trans hd)
end Go.Proofs.YtgjiicjbkmcecaaDoor
