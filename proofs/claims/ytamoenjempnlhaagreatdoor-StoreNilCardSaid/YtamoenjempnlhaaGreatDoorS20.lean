import Derived.Test.YtamoenjempnlhaaGreatDoorS19
namespace Go.Proofs.YtamoenjempnlhaaGreatDoor
open Go.RowKit
set_option maxRecDepth 100000
theorem repeatL_one (x : UInt8) (c : Nat) : Lib.repeatL [x] c = List.replicate c x := by
  induction c with
  | zero => rfl
  | succ c ih => rw [Lib.repeatL, ih, List.replicate_succ]; rfl
theorem repeat0_any (c : Nat) (w : World) (hc : c < 64) :
    Calls Tryz.prog 47 #[.string ⟨#[0]⟩, .int .i64 c] w fun e w' => e = .returned (.string ⟨(List.replicate c 0).toArray⟩) ∧ Below w.heap.size w w' := by
  by_cases h0 : c = 0
  · subst h0
    exact (Tryz.strings_Repeat_zero _ w).mono fun e w' h => ⟨h.1, h.2 ▸ Below.refl _ _⟩
  · by_cases h1 : c = 1
    · subst h1
      exact (Tryz.strings_Repeat_one _ w).mono fun e w' h => ⟨h.1, h.2 ▸ Below.refl _ _⟩
    · refine (Tryz.strings_Repeat_main ⟨#[0]⟩ c w (by omega) (by omega) (by show 1 * c ≤ _; omega) (by decide)).mono ?_
      rintro e w' ⟨rfl, h⟩
      refine ⟨?_, h⟩
      rw [← repeatL_one]
/-- What a closure of the disk's has caught: three variables. -/
structure Caps (q d a : Nat) (v : Value) (T : TypeId) (W : World) : Prop where
  c0 : W.heap[q]? = some (.cells #[.pointer (some ⟨d, 0, none⟩)] 28 (0, 0))
  c1 : W.heap[q + 1]? = some (.cells #[.int .i64 a] 3 (0, 0))
  c2 : W.heap[q + 2]? = some (.cells #[v] T (0, 0))
theorem Caps.kept {q d a : Nat} {v : Value} {T : TypeId} {W W' : World} (h : Caps q d a v T W) (hk : KeptD W W') (h1 : T ≠ 5) (h2 : T ≠ 61) (h3 : T ≠ 188) : Caps q d a v T W' :=
  ⟨(hk _ _ _ h.c0 (by decide) (by decide) (by decide)).trans h.c0, (hk _ _ _ h.c1 (by decide) (by decide) (by decide)).trans h.c1, (hk _ _ _ h.c2 h1 h2 h3).trans h.c2⟩
theorem Caps.cells {q d a : Nat} {v : Value} {T : TypeId} {W : World} (h : Caps q d a v T W) : W.cell? ⟨q, 0, none⟩ = some (.pointer (some ⟨d, 0, none⟩)) ∧ W.cell? ⟨q + 1, 0, none⟩ = some (.int .i64 a) ∧ W.cell? ⟨q + 2, 0, none⟩ = some v :=
  ⟨(cell_of_block h.c0 0).trans rfl, (cell_of_block h.c1 0).trans rfl, (cell_of_block h.c2 0).trans rfl⟩
theorem capsW (q d a : Nat) (v : Value) (T : TypeId) (h1 : T ≠ 5) (h2 : T ≠ 61) (h3 : T ≠ 188) {W W' : World} (hk : KeptD W W')
    (h : (W.cell? ⟨q, 0, none⟩ = some (.pointer (some ⟨d, 0, none⟩)) ∧ W.cell? ⟨q + 1, 0, none⟩ = some (.int .i64 a) ∧ W.cell? ⟨q + 2, 0, none⟩ = some v) ∧ Caps q d a v T W) :
    (W'.cell? ⟨q, 0, none⟩ = some (.pointer (some ⟨d, 0, none⟩)) ∧ W'.cell? ⟨q + 1, 0, none⟩ = some (.int .i64 a) ∧ W'.cell? ⟨q + 2, 0, none⟩ = some v) ∧ Caps q d a v T W' :=
  ⟨(h.2.kept hk h1 h2 h3).cells, h.2.kept hk h1 h2 h3⟩
theorem KeptD.drew (w : World) : KeptD w w.drew := fun _ _ _ _ _ _ _ => rfl
set_option maxHeartbeats 3200000 in
theorem wipe11_any (N d s t n q a b : Nat) (wt : Value) (w0 w : World) (h : DiskAt N d s t n wt 0 [] w0 w) (hc : Caps q d a (.int .i64 b) 3 w) (hab : a < b) (hb : b ≤ n) (hba : b < a + 64) (hn : n ≤ 131072) :
    Calls Tryz.prog 45 #[.pointer (some ⟨q, 0, none⟩), .pointer (some ⟨q + 1, 0, none⟩), .pointer (some ⟨q + 2, 0, none⟩)] w fun e w' => e = .returned (.int .i64 0) ∧ (∃ wt' xs', DiskAt N d s t n wt' 1 xs' w0 w') ∧ KeptD w w' := by
  obtain ⟨c, hcc⟩ : ∃ c, c = b - a := ⟨_, rfl⟩
  have hsub : (b : Int) - a = c := by omega
  have hrep : ∀ w, Calls Tryz.prog 47 #[.string ⟨#[0]⟩, .int .i64 ((b : Int) - a)] w fun e w' => e = .returned (.string (zeroL c)) ∧ Below w.heap.size w w' := fun w => by rw [hsub]; exact repeat0_any c w (by omega)
  have hS0 := And.intro hc.cells hc
  have hS1 := capsW q d a (.int .i64 b) 3 (by decide) (by decide) (by decide) (KeptD.drew w) hS0
  have hK := fun (W W' : World) => capsW q d a (.int .i64 b) 3 (by decide) (by decide) (by decide) (W := W) (W' := W')
  have hwr := fun W (hb : Below w.heap.size w W) => dWrite_any N d s t n a wt (zeroL c) w0 W (h.kept hb) (by rw [zeroL_size]; omega) (by rw [zeroL_size]; omega) hn
  have HK := Lib.hid hK
  have HREP := Lib.hid hrep
  have HWR := Lib.hid hwr
  generalize zeroL c = z at HREP HWR
  clear hrep hwr hcc h hc hsub hK hS0
  have hwb : IntKind.i64.wrap ((b : Int) - a) = (b : Int) - a := by rw [IntKind.wrap_i64]; omega
  have hwb' : wrap64 ((b : Int) - a) = (b : Int) - a := by unfold wrap64; omega
  go_enter Tryz.func45, Tryz.ntmps45
  go_wp2_with fail
  go_region_held3 (fun W => (W.cell? ⟨q, 0, none⟩ = some (.pointer (some ⟨d, 0, none⟩)) ∧ W.cell? ⟨q + 1, 0, none⟩ = some (.int .i64 a) ∧ W.cell? ⟨q + 2, 0, none⟩ = some (.int .i64 b)) ∧ Caps q d a (.int .i64 b) 3 W)
    (first | exact hS1 | assumption | exact HK.out _ _ hk2 (by assumption) | exact HK.out _ _ (KeptD.of_below hb1) hS1)
    (first
      | (go_at_call 47; refine (HREP.out _).mono ?_; rintro e w1 ⟨rfl, hb1⟩; have hbw : Below w.heap.size w w1 := (Below.refl _ w).drew.trans hb1)
      | (go_at_call 46; refine (HWR.out _ hbw).mono ?_; rintro e w2 ⟨rfl, hd2, hk2⟩))
  all_goals go_wp2
  all_goals go_ret
  all_goals exact ⟨rfl, hd2, (KeptD.of_below hbw).trans hk2⟩
set_option maxHeartbeats 3200000 in
theorem put11_any (N d s t n q a : Nat) (z : ByteArray) (wt : Value) (w0 w : World) (h : DiskAt N d s t n wt 0 [] w0 w) (hc : Caps q d a (.string z) 9 w) (hz : z.size = 10) (hb : a + 18 ≤ n) (hn : n ≤ 131072) :
    Calls Tryz.prog 117 #[.pointer (some ⟨q, 0, none⟩), .pointer (some ⟨q + 1, 0, none⟩), .pointer (some ⟨q + 2, 0, none⟩)] w fun e w' => e = .returned (.int .i64 0) ∧ (∃ wt' xs', DiskAt N d s t n wt' 1 xs' w0 w') ∧ KeptD w w' := by
  have hrep := fun w => wrap_any z w hz
  have hS0 := And.intro hc.cells hc
  have hS1 := capsW q d a (.string z) 9 (by decide) (by decide) (by decide) (KeptD.drew w) hS0
  have hK := fun (W W' : World) => capsW q d a (.string z) 9 (by decide) (by decide) (by decide) (W := W) (W' := W')
  have hwr := fun (r : ByteArray) W (hr : r.size = 18) (hb : Below w.heap.size w W) => dWrite_any N d s t n a wt r w0 W (h.kept hb) (by omega) (by omega) hn
  have HK := Lib.hid hK
  have HREP := Lib.hid hrep
  have HWR := Lib.hid hwr
  clear hrep hwr h hc hK hS0
  go_enter Tryz.func117, Tryz.ntmps117
  go_wp2_with fail
  go_region_held3 (fun W => (W.cell? ⟨q, 0, none⟩ = some (.pointer (some ⟨d, 0, none⟩)) ∧ W.cell? ⟨q + 1, 0, none⟩ = some (.int .i64 a) ∧ W.cell? ⟨q + 2, 0, none⟩ = some (.string z)) ∧ Caps q d a (.string z) 9 W)
    (first | exact hS1 | assumption | exact HK.out _ _ hk2 (by assumption) | exact HK.out _ _ (KeptD.of_below hb1) hS1)
    (first
      | (go_at_call 118; refine (HREP.out _).mono ?_; rintro e w1 ⟨⟨r, rfl, hr⟩, hb1⟩; have hbw : Below w.heap.size w w1 := (Below.refl _ w).drew.trans hb1)
      | (go_at_call 46; refine (HWR.out _ _ hr hbw).mono ?_; rintro e w2 ⟨rfl, hd2, hk2⟩))
  all_goals go_wp2
  all_goals go_ret
  all_goals exact ⟨rfl, hd2, (KeptD.of_below hbw).trans hk2⟩
end Go.Proofs.YtamoenjempnlhaaGreatDoor
