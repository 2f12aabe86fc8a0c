import Derived.Test.YtgjiicjbkmcecaaDoorM19
namespace Go.Proofs.YtgjiicjbkmcecaaDoor
open Go.RowKit
set_option maxRecDepth 100000
theorem joined2 (P C : ByteArray) : joined [P, C] = P ++ C := by
  refine ByteArray.ext ?_
  simp [joined, Lib.join, ByteArray.data_append]
theorem meterSum2 (m : Option Nat) (n : Int) (bk : Nat) (P C : ByteArray) (w : World) (hm : holdsN m n w) (h0 : w.cell? ⟨bk, 0, none⟩ = some (.string P)) (h1 : w.cell? ⟨bk, 1, none⟩ = some (.string C)) (hbk : bk < w.heap.size) (hne : ∀ B, m = some B → B ≠ bk)
    (hlen : P.size + C.size ≤ 1073741824) :
    Calls Tryd.prog 19 #[mval m, .slice (some ⟨bk, 0, none⟩) 2 2] w fun e w' => e = .returned (.string (shaS (P ++ C))) ∧ Below w.heap.size (tick m (n + 1) w) w' := by
  have := meterSum_any m n bk 0 2 [P, C] w hm (fun j x hj => by
    match j, hj with
    | 0, hj => cases hj; simpa using h0
    | 1, hj => cases hj; simpa using h1) hbk hne (show 2 ≤ _ by decide) (Nat.le_refl _) (by rw [joined2, ByteArray.size_append]; exact hlen)
  rw [joined2] at this
  exact this
def byteS (p : Int) : ByteArray := ⟨#[UInt8.ofNat p.toNat]⟩
theorem conv_byte (W : World) (g : Nat) (p : Int) (hp0 : 0 ≤ p) (hp1 : p < 256) (h : W.cell? ⟨g, 0, none⟩ = some (.int .u8 p)) : (convert 40 9 (.slice (some ⟨g, 0, none⟩) 1 1)).run Tryd.prog W = .ok (.string (byteS p)) W := by
  have := run_convert_bytes_back (P := Tryd.prog) W 40 9 5 ⟨g, 0, none⟩ 1 [UInt8.ofNat p.toNat] Tryd.underlying40 Tryd.underlying5 Tryd.underlying9 (fun j hj => by
    have h0 : j = 0 := Nat.lt_one_iff.1 hj
    subst h0
    have e : (((UInt8.ofNat p.toNat).toNat : Nat) : Int) = p := by rw [UInt8.toNat_ofNat']; omega
    show W.cell? ⟨g, 0, none⟩ = some (.int .u8 ((UInt8.ofNat p.toNat).toNat : Int))
    rw [e]; exact h)
  exact this
def digestF (p : Int) (l : List UInt8) : ByteArray := shaS (byteS p ++ ⟨(cleanL l).toArray⟩)
theorem cleanL_length (l : List UInt8) : (cleanL l).length ≤ l.length := by
  unfold cleanL
  exact Nat.le_trans (List.length_filter_le _ _) (by rw [List.length_map]; exact Nat.le_refl _)
set_option maxHeartbeats 6400000 in
theorem digest_any (m : Option Nat) (n : Int) (p : Int) (s : ByteArray) (l : List UInt8) (hl : l = s.data.toList) (w : World) (hm : holdsN m n w) (hp0 : 0 ≤ p) (hp1 : p < 256) (hs : s.size ≤ 1000000) (hasc : ∀ b ∈ l, b < 128) :
    Calls Tryd.prog 10 #[mval m, .int .i64 p, .string s] w fun e w' => e = .returned (.string (digestF p l)) ∧ Below w.heap.size (tick m (n + 1) w) w' := by
  have hcl := fun w => clean_any s l hl w (by omega) hasc
  obtain ⟨C, hC⟩ : ∃ C : ByteArray, C = ⟨(cleanL l).toArray⟩ := ⟨_, rfl⟩
  have hCs : C.size ≤ 1000000 := by
    rw [hC]; show (cleanL l).toArray.size ≤ _
    rw [List.size_toArray]
    have := cleanL_length l
    have h2 : l.length = s.size := by rw [hl]; rfl
    omega
  have hD : digestF p l = shaS (byteS p ++ C) := by rw [hC]; rfl
  rw [hD]
  rw [← hC] at hcl
  have hw : IntKind.u8.wrap p = p := by rw [IntKind.wrap_u8]; omega
  have hconv : ∀ (W : World) (g : Nat), W.cell? ⟨g, 0, none⟩ = some (.int .u8 p) → (convert 40 9 (.slice (some ⟨g, 0, none⟩) 1 1)).run Tryd.prog W = .ok (.string (byteS p)) W := fun W g h => conv_byte W g p hp0 hp1 h
  have HCL := Lib.hid hcl
  have HM := Lib.hid hm
  clear hcl hC hD hl hasc hm
  go_enter Tryd.func10, Tryd.ntmps10
  go_wp2_with fail
  go_region_with (first
    | (go_at_call 20; refine (HCL.out _).mono ?_; rintro e w1 ⟨rfl, hb1⟩; have hbw : Below w.heap.size w w1 := Below.trans (by (repeat (first | exact Below.refl _ _ | assumption | refine Below.drew ?_ | refine below_drewN ?_ _ | refine Below.alloc ?_ (by first | omega | (simp; done) | (simp; omega) | (simp at *; omega)) _ | refine Below.setCell ?_ (by first | omega | (simp; done) | (simp; omega)) _ | refine Below.trans ?_ (Below.mono (by assumption) (by first | omega | (simp; done) | (simp; omega) | (simp at *; omega)))))) (Below.mono hb1 (by simp)); have hws := hbw.size; have hkeep := hb1.cell (p := ⟨w.heap.size, 0, none⟩))
    | (go_at_call 19; refine (meterSum2 m n _ (byteS p) C _ (holdsN_below HM.out (by (repeat (first | exact Below.refl _ _ | assumption | refine Below.drew ?_ | refine below_drewN ?_ _ | refine Below.alloc ?_ (by first | omega | (simp; done) | (simp; omega) | (simp at *; omega)) _ | refine Below.setCell ?_ (by first | omega | (simp; done) | (simp; omega)) _ | refine Below.trans ?_ (Below.mono (by assumption) (by first | omega | (simp; done) | (simp; omega) | (simp at *; omega))))))) (by simp) (by simp) (by simp) (fun B h => by have := (HM.out B h).2.2.1; have := hbw.size; simp at *; omega) (by show 1 + C.size ≤ _; omega)).mono ?_; rintro e w5 ⟨rfl, hb5⟩)
    | fail)
  all_goals go_wp2
  all_goals go_ret
  all_goals exact ⟨rfl, (tick_of_below (by (repeat (first | exact Below.refl _ _ | assumption | refine Below.drew ?_ | refine below_drewN ?_ _ | refine Below.alloc ?_ (by first | omega | (simp; done) | (simp; omega) | (simp at *; omega)) _ | refine Below.setCell ?_ (by first | omega | (simp; done) | (simp; omega)) _ | refine Below.trans ?_ (Below.mono (by assumption) (by first | omega | (simp; done) | (simp; omega) | (simp at *; omega))))))).trans (hb5.mono (by simp; omega))⟩
theorem digestF_size (p : Int) (l : List UInt8) : (digestF p l).size = 32 := shaS_size _
set_option maxHeartbeats 3200000 in
theorem owned_any (g : ByteArray) (acc p e t : Int) (w : World) (ha0 : 1 ≤ acc) (ha1 : acc ≤ 99) (hp0 : 1 ≤ p) (hp1 : p ≤ 6) (hb : MaxCell w) :
    Calls Tryd.prog 13 #[.agg #[.string g, .int .i64 acc, .int .i64 p, .string annS, .int .i64 e, .int .i64 t]] w fun e w' => e = .returned (.bool true) ∧ Below w.heap.size w w' := by
  have ht : 0 < triesOf p := by
    obtain rfl | rfl | rfl | rfl | rfl | rfl : p = 1 ∨ p = 2 ∨ p = 3 ∨ p = 4 ∨ p = 5 ∨ p = 6 := by omega
    all_goals decide
  obtain ⟨q, hq⟩ : ∃ q, q = triesOf p := ⟨_, rfl⟩
  have htr := fun w => tries_any p w
  rw [← hq] at ht htr
  have HTR := Lib.hid htr
  have d1 : decide (1 ≤ acc) = true := by simpa using ha0
  have d2 : decide (acc ≤ 99) = true := by simpa using ha1
  have d3 : decide (0 < q) = true := by simpa using ht
  obtain ⟨S, hS⟩ : ∃ S : ByteArray, S = annS := ⟨_, rfl⟩
  have hk : ∀ w1, Below w.heap.size w w1 → Calls Tryd.prog 32 #[.string S] w1 fun e w' => e = .returned (.int .i64 1) ∧ Below w1.heap.size w1 w' := fun w1 h => by rw [hS]; exact kind_annS w1 (hb.below h)
  rw [← hS]
  have HK := Lib.hid hk
  clear htr hq hS hk hb
  go_enter Tryd.func13, Tryd.ntmps13
  go_wp2_with (first
    | (go_at_call 16; refine (HTR.out _).mono ?_; rintro e w1 ⟨rfl, hb1⟩; have hbw : Below w.heap.size w w1 := Below.trans (by (repeat (first | exact Below.refl _ _ | assumption | refine Below.drew ?_ | refine below_drewN ?_ _ | refine Below.alloc ?_ (by first | omega | (simp; done) | (simp; omega) | (simp at *; omega)) _ | refine Below.setCell ?_ (by first | omega | (simp; done) | (simp; omega)) _ | refine Below.trans ?_ (Below.mono (by assumption) (by first | omega | (simp; done) | (simp; omega) | (simp at *; omega)))))) (Below.mono hb1 (by simp)); have hws := hbw.size; have hkeep := fun j => hb1.cell (p := ⟨w.heap.size, j, none⟩))
    | (go_at_call 32; refine (HK.out _ (by (repeat (first | exact Below.refl _ _ | assumption | refine Below.drew ?_ | refine below_drewN ?_ _ | refine Below.alloc ?_ (by first | omega | (simp; done) | (simp; omega) | (simp at *; omega)) _ | refine Below.setCell ?_ (by first | omega | (simp; done) | (simp; omega)) _ | refine Below.trans ?_ (Below.mono (by assumption) (by first | omega | (simp; done) | (simp; omega) | (simp at *; omega))))))).mono ?_; rintro e w2 ⟨rfl, hb2⟩)
    | fail)
  go_ret
  exact ⟨rfl, hbw.trans (hb2.mono hws)⟩
end Go.Proofs.YtgjiicjbkmcecaaDoor
