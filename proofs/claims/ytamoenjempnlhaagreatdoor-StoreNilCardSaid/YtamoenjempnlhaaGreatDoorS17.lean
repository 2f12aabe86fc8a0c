import Derived.Test.YtamoenjempnlhaaGreatDoorS16
import Derived.Laws.IdiomCopy
import Derived.Lib.SliceRun
import Derived.Lib.LazyBuf
namespace Go.Proofs.YtamoenjempnlhaaGreatDoor
open Go.RowKit
set_option maxRecDepth 100000
set_option maxHeartbeats 1600000 in
theorem step_any (d : Nat) (c0 c1 c2 : Value) (w : World) (h : w.heap[d]? = some (.cells #[c0, c1, c2, .int .i64 0, .bool false] 61 (0, 0))) :
    Calls Tryz.prog 109 #[.pointer (some ⟨d, 0, none⟩)] w fun e w' => e = .returned (.int .i64 0) ∧ w' = (w.setCell ⟨d, 3, none⟩ (.int .i64 (-1))).setCell ⟨d, 3, none⟩ (.int .i64 0) := by
  have k3 : w.cell? ⟨d, 3, none⟩ = some (.int .i64 0) := (cell_of_block h 3).trans rfl
  have k4 : w.cell? ⟨d, 4, none⟩ = some (.bool false) := (cell_of_block h 4).trans rfl
  have hf := free_of_block h
  clear h
  go_enter Tryz.func109, Tryz.ntmps109
  go_wp2
  go_ret
  exact ⟨rfl, rfl⟩
theorem size_byte (w : World) : (Go.sizeOf 5).run Tryz.prog w = .ok 1 w := by kernel_rfl
theorem info_write : (Tryz.prog.info? 188).map (fun i => (i.zero, i.size, i.bytes)) = some (some (.agg #[.int .i64 0, .string ⟨#[]⟩]), 2, 24) := by kernel_rfl
/-- n bytes. -/
def bytesOk (n : Nat) (cs : Array Value) : Prop := cs.size = n ∧ ∀ j, j < n → ∃ x : Int, cs[j]? = some (.int .u8 x)
theorem bytesOk_set {n : Nat} {cs : Array Value} (h : bytesOk n cs) (j : Nat) (x : Int) : bytesOk n (cs.setIfInBounds j (.int .u8 x)) := by
  refine ⟨by rw [Array.size_setIfInBounds]; exact h.1, fun i hi => ?_⟩
  rw [Array.getElem?_setIfInBounds]
  by_cases hij : j = i
  · subst hij; rw [if_pos rfl, if_pos (by rw [h.1]; exact hi)]; exact ⟨x, rfl⟩
  · rw [if_neg hij]; exact h.2 i hi
theorem row_sets {n b : Nat} {T : TypeId} : ∀ (vs : List Value) (o : Nat) (w : World) (cs : Array Value), w.heap[b]? = some (.cells cs T (0, 0)) → bytesOk n cs → (∀ v ∈ vs, ∃ x : Int, v = .int .u8 x) → ∃ cs', (w.setCells b o vs).heap[b]? = some (.cells cs' T (0, 0)) ∧ bytesOk n cs'
  | [], _, _, cs, h, hc, _ => ⟨cs, h, hc⟩
  | v :: r, o, w, cs, h, hc, hv => by
    obtain ⟨x, rfl⟩ := hv v (List.mem_cons_self)
    exact row_sets r (o + 1) _ _ (setCell_block h o _) (bytesOk_set hc o x) (fun u hu => hv u (List.mem_cons_of_mem _ hu))
theorem far_sets {b k : Nat} (hk : k ≠ b) : ∀ (vs : List Value) (o : Nat) (w : World), (w.setCells b o vs).heap[k]? = w.heap[k]?
  | [], _, _ => rfl
  | v :: r, o, w => (far_sets hk r (o + 1) _).trans (setCell_far rfl hk o v)
theorem below_sets {B : Nat} {a : World} (b : Nat) (hb : B ≤ b) : ∀ (vs : List Value) (o : Nat) {w : World}, Below B a w → Below B a (w.setCells b o vs)
  | [], _, _, h => h
  | v :: r, o, _, h => below_sets b hb r (o + 1) (h.setCell (p := ⟨b, o, none⟩) hb v)
/-- A disk d while it is written: rows s, t of n bytes; what waits: wt, of k writes. -/
structure DiskAt (N d s t n : Nat) (wt : Value) (k : Nat) (xs : List Value) (w W : World) : Prop where
  blk : W.heap[d]? = some (.cells (diskC s t n wt) 61 (0, 0))
  srow : ∃ cs, W.heap[s]? = some (.cells cs 5 (0, 0)) ∧ bytesOk n cs
  trow : ∃ cs, W.heap[t]? = some (.cells cs 5 (0, 0)) ∧ bytesOk n cs
  own : W.ownsRow N 188 2 wt k xs
  ne : s ≠ t
  hd : N ≤ d
  hs : N ≤ s
  ht : N ≤ t
  below : Below N w W
/-- Every block that is no row of bytes, no disk and no row of writes stands as it stood. -/
def KeptD (w w' : World) : Prop := ∀ (k : Nat) (c : Array Value) (T : TypeId), w.heap[k]? = some (.cells c T (0, 0)) → T ≠ 5 → T ≠ 61 → T ≠ 188 → w'.heap[k]? = w.heap[k]?
theorem KeptD.refl (w : World) : KeptD w w := fun _ _ _ _ _ _ _ => rfl
theorem KeptD.trans {a b c : World} (h : KeptD a b) (h2 : KeptD b c) : KeptD a c := fun k cc T hk h1 h3 h4 => (h2 k cc T ((h k cc T hk h1 h3 h4).trans hk) h1 h3 h4).trans (h k cc T hk h1 h3 h4)
theorem KeptD.of_below {w w' : World} (h : Below w.heap.size w w') : KeptD w w' := fun k _ _ hk _ _ _ => h.block k (lt_of_block' hk)
theorem DiskAt.sd {N d s t n k : Nat} {wt : Value} {xs : List Value} {w W : World} (h : DiskAt N d s t n wt k xs w W) : s ≠ d ∧ t ≠ d := by
  obtain ⟨cs, h1, _⟩ := h.srow
  obtain ⟨ct, h2, _⟩ := h.trow
  constructor
  · rintro rfl
    have := h1.symm.trans h.blk
    cases this
  · rintro rfl
    have := h2.symm.trans h.blk
    cases this
theorem DiskAt.wfar {N d s t n k : Nat} {wt : Value} {xs : List Value} {w W : World} (h : DiskAt N d s t n wt k xs w W) : some d ≠ wt.ownBlock ∧ some s ≠ wt.ownBlock ∧ some t ≠ wt.ownBlock := by
  obtain ⟨cs, h1, _⟩ := h.srow
  obtain ⟨ct, h2, _⟩ := h.trow
  have hb := h.blk
  rcases h.own.2 with ⟨rfl, _⟩ | ⟨g, cap, cur, rfl, _, hg, _⟩
  · exact ⟨(fun e => by cases e), (fun e => by cases e), (fun e => by cases e)⟩
  · refine ⟨fun e => ?_, fun e => ?_, fun e => ?_⟩
    · obtain rfl : d = g := by simpa [Value.ownBlock] using e
      have := hb.symm.trans hg; cases this
    · obtain rfl : s = g := by simpa [Value.ownBlock] using e
      have := h1.symm.trans hg; cases this
    · obtain rfl : t = g := by simpa [Value.ownBlock] using e
      have := h2.symm.trans hg; cases this
/-- What is no block of the disk's is kept. -/
theorem DiskAt.keptD {N d s t n k : Nat} {wt : Value} {xs : List Value} {w W W' : World} (h : DiskAt N d s t n wt k xs w W) (hf : ∀ j, j < W.heap.size → j ≠ d → j ≠ s → j ≠ t → some j ≠ wt.ownBlock → W'.heap[j]? = W.heap[j]?) : KeptD W W' := by
  intro j c T hj h1 h2 h3
  obtain ⟨cs, e1, _⟩ := h.srow
  obtain ⟨ct, e2, _⟩ := h.trow
  refine hf j (lt_of_block' hj) ?_ ?_ ?_ ?_
  · rintro rfl; have := hj.symm.trans h.blk; cases this; exact h2 rfl
  · rintro rfl; have := hj.symm.trans e1; cases this; exact h1 rfl
  · rintro rfl; have := hj.symm.trans e2; cases this; exact h1 rfl
  · intro e
    rcases h.own.2 with ⟨rfl, _⟩ | ⟨g, cap, cur, rfl, _, hg, _⟩
    · cases e
    · obtain rfl : j = g := by simpa [Value.ownBlock] using e
      have := hj.symm.trans hg; cases this; exact h3 rfl
theorem DiskAt.kept {N d s t n k : Nat} {wt : Value} {xs : List Value} {w W W' : World} (h : DiskAt N d s t n wt k xs w W) (hb : Below W.heap.size W W') : DiskAt N d s t n wt k xs w W' := by
  obtain ⟨cs, h1, h2⟩ := h.srow
  obtain ⟨ct, h3, h4⟩ := h.trow
  refine ⟨(hb.block d (lt_of_block' h.blk)).trans h.blk, ⟨cs, (hb.block s (lt_of_block' h1)).trans h1, h2⟩, ⟨ct, (hb.block t (lt_of_block' h3)).trans h3, h4⟩, ?_, h.ne, h.hd, h.hs, h.ht, h.below.trans (hb.mono (by have := lt_of_block' h1; have := h.hs; omega))⟩
  rcases h.own with ⟨hl, h5 | ⟨g, cap, cur, e1, e2, e3, e4⟩⟩
  · exact ⟨hl, Or.inl h5⟩
  · exact ⟨hl, Or.inr ⟨g, cap, cur, e1, e2, (hb.block g (lt_of_block' e3)).trans e3, e4⟩⟩
end Go.Proofs.YtamoenjempnlhaaGreatDoor
