import Derived.Test.YtgjiicjbkmcecaaDoorM22
import Derived.Laws.IdiomCopy
import Derived.Laws.MakeOwn
namespace Go.Proofs.YtgjiicjbkmcecaaDoor
open Go.RowKit
set_option maxRecDepth 100000
/-- copy(dst, s), s a string of whatever length. -/
theorem run_copy_cut {P : Program} (w : World) (dT sT ty elem : TypeId) (b dLen dCap : Nat) (t : ByteArray)
    (hu : P.underlying dT = some (.slice elem)) (hz : ∀ w, (Go.sizeOf elem).run P w = .ok 1 w)
    (hc : ∀ j, j < dLen → (w.cell? ⟨b, j, none⟩).isSome = true) (hf : ∀ j, j < dLen → w.frozen? ⟨b, j, none⟩ = false) :
    (Builtin.copy_ #[dT, sT] ty #[.slice (some ⟨b, 0, none⟩) dLen dCap, .string t]).run P w = .ok (goInt (Nat.min t.size dLen)) (w.setCells b 0 ((t.data.toList.map fun x => Value.int .u8 (x.toNat : Int)).take (Nat.min t.size dLen))) := by
  have hl : ((t.data.toList.map fun x => Value.int .u8 (x.toNat : Int)).take (Nat.min t.size dLen)).length = Nat.min t.size dLen := by
    rw [List.length_take, List.length_map, ← Lib.size_eq]
    exact Nat.min_eq_left (Nat.min_le_left _ _)
  have hle : Nat.min t.size dLen ≤ dLen := Nat.min_le_right _ _
  have hst := run_storeCells_cells (P := P) b 0 ((t.data.toList.map fun x => Value.int .u8 (x.toNat : Int)).take (Nat.min t.size dLen)) 0 w (by rw [hl]; intro j hj; simpa using hc j (by omega)) (by rw [hl]; intro j hj; simpa using hf j (by omega)) (by
    intro v hv
    obtain ⟨x, _, rfl⟩ := List.mem_map.1 (List.mem_of_mem_take hv)
    rfl)
  simp [Builtin.copy_, run_underlying hu, Builtin.lenOf, Builtin.firstCells, hz]
  rw [hst]
  rfl
theorem size_byte (w : World) : (Go.sizeOf 5).run Tryd.prog w = .ok 1 w := by kernel_rfl
theorem below_sets {B : Nat} {a : World} (b : Nat) (hb : B ≤ b) : ∀ (vs : List Value) (o : Nat) {w : World}, Below B a w → Below B a (w.setCells b o vs)
  | [], _, _, h => h
  | v :: r, o, _, h => below_sets b hb r (o + 1) (h.setCell (p := ⟨b, o, none⟩) hb v)
theorem make10 (w : World) : ∃ W1, (Instr.makeSlice 40 (.int .i64 10) (.int .i64 10)).run Tryd.prog w = .ok (.slice (some ⟨w.heap.size, 0, none⟩) 10 10) W1 ∧ (∀ j, j < 10 → W1.cell? ⟨w.heap.size, j, none⟩ = some (.int .u8 0)) ∧ (∀ j, j < 10 → W1.frozen? ⟨w.heap.size, j, none⟩ = false) ∧ Below w.heap.size w W1 ∧ W1.heap.size = w.heap.size + 1 := by
  obtain ⟨i, hi, hz, hs, hb⟩ := info_parts info_byte
  have hm := run_make w 40 5 i (.int .u8 0) Tryd.underlying40 hi hz .i64 .i64 10 10 (by decide) (by decide) (by rw [hb]; decide) (by decide)
  rw [hs] at hm
  refine ⟨_, hm, ?_, ?_, (Below.refl _ w).alloc (Nat.le_refl _) _, by simp⟩
  · intro j hj
    refine (cell_of_block (block_new w _ _ _ rfl) j).trans ?_
    simp only [madeCells, Value.cells]
    rw [Array.getElem?_map, Array.getElem?_range, if_pos (by simpa using hj)]
    simp [Nat.mod_one]
  · intro j hj
    exact free_of_block (block_new w _ _ _ rfl) j
def padB (s : ByteArray) : List UInt8 := (s.data.toList ++ List.replicate 10 0).take 10
def padS (s : ByteArray) : ByteArray := ⟨(padB s).toArray⟩
theorem padB_length (s : ByteArray) : (padB s).length = 10 := by simp [padB]
theorem padS_size (s : ByteArray) : (padS s).size = 10 := padB_length s
theorem conv10 (W : World) (g : Nat) (l : List UInt8) (hl : l.length = 10) (h : ∀ j (hj : j < l.length), W.cell? ⟨g, j, none⟩ = some (.int .u8 (l[j].toNat : Int))) : (convert 40 9 (.slice (some ⟨g, 0, none⟩) 10 10)).run Tryd.prog W = .ok (.string ⟨l.toArray⟩) W := by
  have := run_convert_bytes_back (P := Tryd.prog) W 40 9 5 ⟨g, 0, none⟩ 10 l Tryd.underlying40 Tryd.underlying5 Tryd.underlying9 (fun j hj => by
    rw [show (⟨g, 0, none⟩ : Addr).add j = ⟨g, j, none⟩ by unfold Addr.add; split <;> simp_all]
    exact h j hj)
  rw [hl] at this
  exact this
set_option maxHeartbeats 1600000 in
theorem draw_any (s : ByteArray) (w : World) : Calls Tryd.prog 6 #[.string s] w fun e w' => e = .returned (.string (padS s)) ∧ Below w.heap.size w w' := by
  obtain ⟨W1, hmk, hc, hf, hb, hsz⟩ := make10 w
  have hcp := run_copy_cut (P := Tryd.prog) W1 40 9 3 5 w.heap.size 10 10 s Tryd.underlying40 size_byte (fun j hj => by rw [hc j hj]; rfl) hf
  have hB2 := below_sets (a := w) w.heap.size (Nat.le_refl _) ((s.data.toList.map fun x => Value.int .u8 (x.toNat : Int)).take (Nat.min s.size 10)) 0 hb
  have hcells : ∀ j (hj : j < (padB s).length), (W1.setCells w.heap.size 0 ((s.data.toList.map fun x => Value.int .u8 (x.toNat : Int)).take (Nat.min s.size 10))).cell? ⟨w.heap.size, j, none⟩ = some (.int .u8 ((padB s)[j].toNat : Int)) := by
    intro j hj
    rw [padB_length] at hj
    have hlen : ((s.data.toList.map fun x => Value.int .u8 (x.toNat : Int)).take (Nat.min s.size 10)).length = Nat.min s.size 10 := by
      rw [List.length_take, List.length_map, ← Lib.size_eq]
      exact Nat.min_eq_left (Nat.min_le_left _ _)
    by_cases hjs : j < s.size
    · have hin := World.cell?_setCells_in w.heap.size ((s.data.toList.map fun x => Value.int .u8 (x.toNat : Int)).take (Nat.min s.size 10)) 0 W1 (by
        rw [hlen]; intro k hk
        rw [Nat.zero_add, hc k (Nat.lt_of_lt_of_le hk (Nat.min_le_right _ _))]; rfl) j (by rw [hlen]; exact Nat.lt_min.2 ⟨hjs, hj⟩)
      rw [Nat.zero_add] at hin
      rw [hin, List.getElem_take, List.getElem_map]
      have hjl : j < s.data.toList.length := by rw [← Lib.size_eq]; exact hjs
      simp only [padB, List.getElem_take, List.getElem_append_left hjl]
    · have hout := World.cell?_setCells_out w.heap.size ((s.data.toList.map fun x => Value.int .u8 (x.toNat : Int)).take (Nat.min s.size 10)) 0 W1 ⟨w.heap.size, j, none⟩ (fun _ _ => Or.inr (by
        rw [hlen, Nat.zero_add]; exact Nat.le_trans (Nat.min_le_left _ _) (Nat.le_of_not_lt hjs)))
      rw [hout, hc j hj]
      have hjl : s.data.toList.length ≤ j := by rw [← Lib.size_eq]; omega
      simp only [padB, List.getElem_take, List.getElem_append_right hjl, List.getElem_replicate]
      rfl
  have hcv := conv10 _ w.heap.size (padB s) (padB_length s) hcells
  obtain ⟨D, hD⟩ : ∃ D : ByteArray, D = padS s := ⟨_, rfl⟩
  rw [show (⟨(padB s).toArray⟩ : ByteArray) = padS s from rfl, ← hD] at hcv
  rw [← hD]
  clear hD hcells
  generalize W1.setCells w.heap.size 0 ((s.data.toList.map fun x => Value.int .u8 (x.toNat : Int)).take (Nat.min s.size 10)) = W2 at hcp hB2 hcv
  have HB := Lib.hid hB2
  clear hc hf hb hB2
  go_enter Tryd.func6, Tryd.ntmps6
  go_wp2
  go_ret
  exact ⟨rfl, HB.out⟩
def zeroS : ByteArray := ⟨(List.replicate 10 (0 : UInt8)).toArray⟩
theorem accF_zero : accF (List.replicate 10 0) 8 = 0 := by decide +kernel
theorem plainF2_zero : plainF 2 (List.replicate 10 0) = List.replicate 16 97 := by
  unfold plainF; rw [if_neg (by decide)]; exact encF_zero
theorem plainF4_zero : plainF 4 (List.replicate 10 0) = List.replicate 6 48 := by
  unfold plainF; rw [if_pos rfl, accF_zero]; exact codeF_zero
theorem plain2_zero (w : World) (hb : Base w) : Calls Tryd.prog 12 #[.int .i64 2, .string zeroS] w fun e w' => e = .returned (.tuple #[.string ⟨#[97, 97, 97, 97, 97, 97, 97, 97, 97, 97, 97, 97, 97, 97, 97, 97]⟩, .bool true]) ∧ Below w.heap.size w w' := by
  have h := plain_any 2 zeroS w (by decide) (by decide) rfl hb
  rw [show plainF 2 zeroS.data.toList = _ from plainF2_zero] at h
  exact h
theorem plain4_zero (w : World) (hb : Base w) : Calls Tryd.prog 12 #[.int .i64 4, .string zeroS] w fun e w' => e = .returned (.tuple #[.string ⟨#[48, 48, 48, 48, 48, 48]⟩, .bool true]) ∧ Below w.heap.size w w' := by
  have h := plain_any 4 zeroS w (by decide) (by decide) rfl hb
  rw [show plainF 4 zeroS.data.toList = _ from plainF4_zero] at h
  exact h
set_option maxHeartbeats 1600000 in
theorem awake_any (w : World) (hbase : Base w) : Calls Tryd.prog 4 #[] w fun e w' => e = .returned (.bool true) ∧ Below w.heap.size w w' := by
  obtain ⟨W1, hmk, hc, hf, hb, hsz⟩ := make10 w
  have hcv := conv10 W1 w.heap.size (List.replicate 10 0) (by simp) (fun j hj => by rw [hc j (by simpa using hj), List.getElem_replicate]; rfl)
  rw [show (⟨(List.replicate 10 (0 : UInt8)).toArray⟩ : ByteArray) = zeroS from rfl] at hcv
  have h2 := fun w1 (h : Below w.heap.size w w1) => plain2_zero w1 (hbase.below h)
  have h4 := fun w1 (h : Below w.heap.size w w1) => plain4_zero w1 (hbase.below h)
  generalize zeroS = Z at hcv h2 h4
  have H2 := Lib.hid h2
  have H4 := Lib.hid h4
  have HB := Lib.hid hb
  clear h2 h4 hb hc hf hsz
  go_enter Tryd.func4, Tryd.ntmps4
  go_wp2_with fail
  refine (H2.out _ HB.out).mono ?_
  rintro e w2 ⟨rfl, hb2⟩
  have hB2 := Lib.hid (HB.out.trans (hb2.mono HB.out.size))
  clear hb2
  go_wp2_with fail
  refine (H4.out _ hB2.out).mono ?_
  rintro e w3 ⟨rfl, hb3⟩
  have hB3 := Lib.hid (hB2.out.trans (hb3.mono hB2.out.size))
  clear hb3
  go_wp2
  go_ret
  exact ⟨rfl, hB3.out⟩
end Go.Proofs.YtgjiicjbkmcecaaDoor
