import Derived.Test.YtgjiicjbkmcecaaDoorM14
import Derived.Lib.ItoaMem
namespace Go.Proofs.YtgjiicjbkmcecaaDoor
open Go.RowKit Go.Sort
theorem nDigits_le6 (u : Nat) (h : u < 1000000) : Lib.nDigits u ≤ 6 := by
  by_cases h1 : u < 10
  · rw [Lib.nDigits_small h1]; omega
  by_cases h2 : u < 100
  · rw [Lib.nDigits_unique 1 u (by omega) (by omega)]; omega
  by_cases h3 : u < 1000
  · rw [Lib.nDigits_unique 2 u (by omega) (by omega)]; omega
  by_cases h4 : u < 10000
  · rw [Lib.nDigits_unique 3 u (by omega) (by omega)]; omega
  by_cases h5 : u < 100000
  · rw [Lib.nDigits_unique 4 u (by omega) (by omega)]; omega
  · rw [Lib.nDigits_unique 5 u (by omega) (by omega)]; omega
def PowTab (w : World) : Prop := Lib.TabIs Tryd.prog w "internal/strconv.uint64pow10" .u64 Lib.pow10Tab
theorem holds_zero0 (w : World) (T : TypeId) (nd : Nat) (hs : nd ≤ 24) : Holds (fun (b : UInt8) => Value.int .u8 (b.toNat : Int)) (w.alloc (.cells Lib.zeros24 T)) w.heap.size 0 (Array.replicate nd (0 : UInt8)) := fun j hj => by
  have hj' : j < nd := by simpa using hj
  refine ⟨?_, World.frozen?_alloc_new _ _ _ _⟩
  rw [World.cell?_alloc_new, Lib.zeros24_at _ (by omega), getElem!_pos _ j hj]
  simp
set_option maxRecDepth 100000
set_option maxHeartbeats 3200000 in
theorem formatUint_in (u : Nat) (hu : u < 1000000) (w : World) (htab : PowTab w) :
    Calls Tryd.prog 59 #[.int .u64 u, .int .i64 10] w fun e w' => e = .returned (.string ⟨(Lib.decDigits u).toArray⟩) ∧ Below w.heap.size w w' := by
  by_cases hs : u < 100
  · have hd : decide ((u : Int) < 100) = true := by simp; omega
    go_enter Tryd.func59, Tryd.ntmps59
    go_wp2_with (go_at_call 76; refine (Tryd.internal_strconv_small u hs _).mono ?_; rintro e w1 ⟨rfl, rfl⟩)
    go_ret
    exact ⟨rfl, Below.refl _ _⟩
  · have hd : decide ((u : Int) < 100) = false := by simp; omega
    have hn6 := nDigits_le6 u hu
    have hsl : ∀ W, (Instr.sliceAt 114 (.pointer (some ⟨w.heap.size, 0, none⟩)) none (some (.int .i64 (Lib.nDigits u : Int))) none).run Tryd.prog W = .ok (.slice (some ⟨w.heap.size, 0, none⟩) (Lib.nDigits u) 24) W := fun W => by
      rw [run_sliceAt_array_h W 114 ⟨w.heap.size, 0, none⟩ (by kernel_rfl) .i64 (Lib.nDigits u : Int) (by omega) (by rw [show Tryd.prog.arrayLen 114 = 24 by kernel_rfl]; omega)]
      go_simp
    have hH0 := holds_zero0 w 114 (Lib.nDigits u) (by omega)
    have hfmt := Tryd.internal_strconv_formatBase10 w.heap.size 0 24 u (Array.replicate (Lib.nDigits u) 0) (w.alloc (.cells Lib.zeros24 114)) hH0 (by rw [Array.size_replicate]; exact Lib.lt_pow_nDigits u) (by omega) (by rw [Array.size_replicate]; omega)
    rw [Array.size_replicate] at hfmt
    have HH0 := Lib.hid hH0
    clear hH0
    go_enter Tryd.func59, Tryd.ntmps59
    go_wp2_with (first
      | (go_at_call 77; refine (Tryd.internal_strconv_numDigits u (by omega) (by omega) _ (Lib.tabIs_alloc htab _)).mono ?_; rintro e w1 ⟨rfl, rfl⟩)
      | fail)
    go_at_call 78
    refine hfmt.mono ?_
    rintro e w2 ⟨rfl, k, v', dk, rfl, hF⟩
    have hcv : (convert 40 9 (.slice (some ⟨w.heap.size, 0, none⟩) (Lib.nDigits u) 24)).run Tryd.prog ((putRow (fun (b : UInt8) => Value.int .u8 (b.toNat : Int)) (w.alloc (.cells Lib.zeros24 114)) w.heap.size 0 dk).drewN k) = .ok (.string ⟨(Lib.decDigits u).toArray⟩) ((putRow (fun (b : UInt8) => Value.int .u8 (b.toNat : Int)) (w.alloc (.cells Lib.zeros24 114)) w.heap.size 0 dk).drewN k) := by
      have h := run_convert_bytes_back (P := Tryd.prog) ((putRow (fun (b : UInt8) => Value.int .u8 (b.toNat : Int)) (w.alloc (.cells Lib.zeros24 114)) w.heap.size 0 dk).drewN k) 40 9 5 ⟨w.heap.size, 0, none⟩ 24 (Lib.decDigits u) Tryd.underlying40 Tryd.underlying5 Tryd.underlying9 (fun j hj => by
        rw [Lib.row_is_numeral hF j hj, Lib.add_plain, World.cell?_drewN]
        exact cell?_putRow (fun (b : UInt8) => Value.int .u8 (b.toNat : Int)) _ w.heap.size 0 _ dk HH0.out (by rw [hF.size, Array.size_replicate]) j (by rw [hF.size]; rw [Lib.decDigits_length] at hj; exact hj))
      rw [Lib.decDigits_length] at h
      exact h
    have hB : Below w.heap.size w ((putRow (fun (b : UInt8) => Value.int .u8 (b.toNat : Int)) (w.alloc (.cells Lib.zeros24 114)) w.heap.size 0 dk).drewN k) := by
      rw [alloc_eq_grow]
      obtain ⟨os', _, e⟩ := putRow_grow_new (fun (b : UInt8) => Value.int .u8 (b.toNat : Int)) w #[.cells Lib.zeros24 114] w.heap.size 0 dk (Nat.le_refl _)
      rw [e]
      exact ⟨rfl, rfl, rfl, (show w.heap.size ≤ (w.heap ++ os').size by simp), fun b hb => (show (w.heap ++ os')[b]? = w.heap[b]? from Array.getElem?_append_left hb)⟩
    generalize (putRow (fun (b : UInt8) => Value.int .u8 (b.toNat : Int)) (w.alloc (.cells Lib.zeros24 114)) w.heap.size 0 dk).drewN k = W1 at hcv hB ⊢
    have HB := Lib.hid hB
    clear hF HH0 hfmt hB
    go_wp2
    go_ret
    exact ⟨rfl, HB.out⟩
set_option maxHeartbeats 1600000 in
theorem formatUint_any (u : Nat) (hu : u < 1000000) (w : World) (htab : PowTab w) :
    Calls Tryd.prog 44 #[.int .u64 u, .int .i64 10] w fun e w' => e = .returned (.string ⟨(Lib.decDigits u).toArray⟩) ∧ Below w.heap.size w w' := by
  go_enter Tryd.func44, Tryd.ntmps44
  go_wp2_with (go_at_call 59; refine (formatUint_in u hu _ htab).mono ?_; rintro e w1 ⟨rfl, hb1⟩)
  go_ret
  exact ⟨rfl, hb1⟩
theorem repeat48_any (c : Nat) (w : World) (hc : c ≤ 6) :
    Calls Tryd.prog 39 #[.string ⟨#[48]⟩, .int .i64 c] w fun e w' => e = .returned (.string ⟨(List.replicate c 48).toArray⟩) ∧ Below w.heap.size w w' := by
  by_cases h0 : c = 0
  · subst h0
    exact (Tryd.strings_Repeat_zero _ w).mono fun e w' h => ⟨h.1, h.2 ▸ Below.refl _ _⟩
  · by_cases h1 : c = 1
    · subst h1
      exact (Tryd.strings_Repeat_one _ w).mono fun e w' h => ⟨h.1, h.2 ▸ Below.refl _ _⟩
    · refine (Tryd.strings_Repeat_main ⟨#[48]⟩ c w (by omega) (by omega) (by show 1 * c ≤ _; omega) (by decide)).mono ?_
      rintro e w' ⟨rfl, h⟩
      refine ⟨?_, h⟩
      rw [← repeatL_one]
def codeF (n : Nat) : List UInt8 := List.replicate (6 - Lib.nDigits (n % 1000000)) 48 ++ Lib.decDigits (n % 1000000)
set_option maxHeartbeats 1600000 in
theorem code_any (n : Nat) (hn : n < 18446744073709551616) (w : World) (htab : PowTab w) :
    Calls Tryd.prog 31 #[.int .u64 n] w fun e w' => e = .returned (.string ⟨(codeF n).toArray⟩) ∧ Below w.heap.size w w' := by
  obtain ⟨u, hu⟩ : ∃ u, u = n % 1000000 := ⟨_, rfl⟩
  have hu6 : u < 1000000 := by omega
  have en : (n : Int) % 1000000 = (u : Int) := by omega
  have hd6 := nDigits_le6 u hu6
  obtain ⟨q, hq⟩ : ∃ q, q = 6 - Lib.nDigits u := ⟨_, rfl⟩
  have eq6 : (6 : Int) - (Lib.nDigits u : Int) = (q : Int) := by omega
  have hq6 : q ≤ 6 := by omega
  have hsz : (⟨(Lib.decDigits u).toArray⟩ : ByteArray).size = Lib.nDigits u := by
    show (Lib.decDigits u).toArray.size = _
    rw [List.size_toArray, Lib.decDigits_length]
  obtain ⟨D, hD⟩ : ∃ D : ByteArray, D = ⟨(Lib.decDigits u).toArray⟩ := ⟨_, rfl⟩
  rw [← hD] at hsz
  have hfu := formatUint_any u hu6 w htab
  rw [← hD] at hfu
  have HU := Lib.hid hu
  have HQ := Lib.hid hq
  have HDD := Lib.hid hD
  clear hu hq hD
  go_enter Tryd.func31, Tryd.ntmps31
  go_wp2_with (first
    | (go_at_call 44; refine hfu.mono ?_; rintro e w1 ⟨rfl, hb1⟩)
    | (go_at_call 39; refine (repeat48_any q _ hq6).mono ?_; rintro e w2 ⟨rfl, hb2⟩)
    | fail)
  go_ret
  have hB := hb1.trans (hb2.mono hb1.size)
  refine ⟨?_, hB⟩
  have e : (⟨Array.replicate q 48⟩ : ByteArray) ++ D = ⟨(codeF n).toArray⟩ := by
    refine ByteArray.ext ?_
    rw [codeF, ← HU.out, ← HQ.out, HDD.out]
    simp [ByteArray.data_append]
  rw [e]
  rfl
theorem codeF_length (n : Nat) : (codeF n).length = 6 := by
  have := nDigits_le6 (n % 1000000) (Nat.mod_lt _ (by decide))
  have h1 := Lib.nDigits_pos (n % 1000000)
  rw [codeF, List.length_append, List.length_replicate, Lib.decDigits_length]
  omega
theorem decDigits_mem (u : Nat) : ∀ b ∈ Lib.decDigits u, 48 ≤ b.toNat ∧ b.toNat ≤ 57 := by
  intro b hb
  rw [Lib.decDigits_eq, List.mem_map] at hb
  obtain ⟨j, _, rfl⟩ := hb
  unfold Lib.dg
  rw [UInt8.toNat_ofNat']
  omega
theorem codeF_mem (n : Nat) : ∀ b ∈ codeF n, 48 ≤ b.toNat ∧ b.toNat ≤ 57 := by
  intro b hb
  rw [codeF, List.mem_append] at hb
  rcases hb with hb | hb
  · rw [List.mem_replicate] at hb
    rw [hb.2]; decide
  · exact decDigits_mem _ b hb
theorem dig32_mem (v : Nat) (hv : v < 32) : (97 ≤ (dig32 v).toNat ∧ (dig32 v).toNat ≤ 122) ∨ (50 ≤ (dig32 v).toNat ∧ (dig32 v).toNat ≤ 55) := by
  have : ∀ v : Fin 32, (97 ≤ (dig32 v.val).toNat ∧ (dig32 v.val).toNat ≤ 122) ∨ (50 ≤ (dig32 v.val).toNat ∧ (dig32 v.val).toNat ≤ 55) := by decide +kernel
  exact this ⟨v, hv⟩
def plainB (b : UInt8) : Prop := (97 ≤ b.toNat ∧ b.toNat ≤ 122) ∨ (48 ≤ b.toNat ∧ b.toNat ≤ 57)
theorem encD_mem (Y N n : Nat) : ∀ b ∈ encD Y N n, plainB b := by
  intro b hb
  rw [encD, List.mem_map] at hb
  obtain ⟨i, _, rfl⟩ := hb
  rcases dig32_mem (Y / 2 ^ (N - 5 * (i + 1)) % 32) (Nat.mod_lt _ (by decide)) with h | h
  · exact Or.inl h
  · exact Or.inr ⟨by omega, by omega⟩
theorem encX_mem (s : List UInt8) (j : Nat) : ∀ b ∈ (encX s j).2.2, plainB b := by
  induction j with
  | zero => intro b hb; cases hb
  | succ j ih =>
    intro b hb
    have hb' : b ∈ (encX s j).2.2 ++ encD ((encX s j).1 * 2 ^ 8 + (s.getD j 0).toNat) ((encX s j).2.1 + 8) (((encX s j).2.1 + 8) / 5) := hb
    rw [List.mem_append] at hb'
    exact hb'.elim (ih b) (encD_mem _ _ _ b)
theorem encF_mem (s : List UInt8) : ∀ b ∈ encF s, plainB b := by
  intro b hb
  unfold encF at hb
  split at hb
  · rw [List.mem_append] at hb
    exact hb.elim (encX_mem _ _ b) (encD_mem _ _ _ b)
  · exact encX_mem _ _ b hb
theorem encF_length (s : List UInt8) : (encF s).length ≤ 2 * s.length + 1 := by
  have := (encX_ok s s.length).2.2
  unfold encF
  split
  · rw [List.length_append, encD, List.length_map, List.length_range]; omega
  · omega
theorem encF_zero : encF (List.replicate 10 0) = List.replicate 16 97 := by decide +kernel
theorem codeF_zero : codeF 0 = List.replicate 6 48 := by
  simp [codeF, Lib.nDigits_small, Lib.decDigits]
end Go.Proofs.YtgjiicjbkmcecaaDoor
