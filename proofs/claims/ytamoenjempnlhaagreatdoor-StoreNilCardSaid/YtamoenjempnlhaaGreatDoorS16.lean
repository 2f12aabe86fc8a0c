import Derived.Test.YtamoenjempnlhaaGreatDoorS15
import Derived.Test.YtamoenjempnlhaaGreatDoorShelf
namespace Go.Proofs.YtamoenjempnlhaaGreatDoor
open Go.RowKit
set_option maxRecDepth 100000
set_option maxHeartbeats 1600000 in
theorem csum_any (q : Nat) (s : ByteArray) (w : World) (hq : w.heap[q]? = some (.cells #[.string s] 9 (0, 0))) (hs : s.size ≤ 100000) :
    Calls Tryz.prog 228 #[.slice (some ⟨q, 0, none⟩) 1 1] w fun e w' => (∃ y, e = .returned (.int .u32 y) ∧ 0 ≤ y ∧ y < 4294967296) ∧ Below w.heap.size w w' := by
  have c0 : w.cell? ⟨q, 0, none⟩ = some (.string s) := (cell_of_block hq 0).trans rfl
  clear hq
  go_enter Tryz.func228, Tryz.ntmps228
  go_wp2_with fail
  go_loopg [3, 8] 1 (fun g u v wr => (g = 1 ∧ u = .int .u32 0 ∧ v = .int .i64 0 ∧ wr = w) ∨ (g = 0 ∧ (∃ y : Int, u = .int .u32 y ∧ 0 ≤ y ∧ y < 4294967296) ∧ v = .int .i64 1 ∧ Below w.heap.size w wr))
  case atStart => exact Or.inl ⟨rfl, rfl, rfl, rfl⟩
  case round =>
    rcases hrel with ⟨rfl, rfl, rfl, rfl⟩ | ⟨rfl, ⟨y, rfl, h0, h1⟩, rfl, hb⟩
    · go_wp2_with (first
        | (go_at_call 250; refine (extend_any 0 s _ (by decide) (by decide) hs).mono ?_; rintro e w1 ⟨⟨y, rfl, h0, h1⟩, hb1⟩)
        | fail)
      go_roundg 0
      case measure => omega
      case rel => exact Or.inr ⟨rfl, ⟨y, rfl, h0, h1⟩, rfl, hb1⟩
    · go_wp2
      go_ret
      exact ⟨⟨y, rfl, h0, h1⟩, hb⟩
theorem conv4 (W : World) (g : Nat) (v0 v1 v2 v3 : Int) (h : W.heap[g]? = some (.cells #[.int .u8 v0, .int .u8 v1, .int .u8 v2, .int .u8 v3] 5 (0, 0))) (r0 : 0 ≤ v0 ∧ v0 < 256) (r1 : 0 ≤ v1 ∧ v1 < 256) (r2 : 0 ≤ v2 ∧ v2 < 256) (r3 : 0 ≤ v3 ∧ v3 < 256) :
    ∃ t : ByteArray, t.size = 4 ∧ (convert 58 9 (.slice (some ⟨g, 0, none⟩) 4 4)).run Tryz.prog W = .ok (.string t) W := by
  refine ⟨⟨#[UInt8.ofNat v0.toNat, UInt8.ofNat v1.toNat, UInt8.ofNat v2.toNat, UInt8.ofNat v3.toNat]⟩, rfl, ?_⟩
  have e : ∀ v : Int, 0 ≤ v ∧ v < 256 → (((UInt8.ofNat v.toNat).toNat : Nat) : Int) = v := fun v hv => by rw [UInt8.toNat_ofNat']; omega
  exact run_convert_bytes_back (P := Tryz.prog) W 58 9 5 ⟨g, 0, none⟩ 4 [UInt8.ofNat v0.toNat, UInt8.ofNat v1.toNat, UInt8.ofNat v2.toNat, UInt8.ofNat v3.toNat] Tryz.underlying58 Tryz.underlying5 Tryz.underlying9 (fun j hj => by
    match j, hj with
    | 0, _ => exact (cell_of_block h 0).trans (congrArg (fun x => some (Value.int .u8 x)) (e v0 r0).symm)
    | 1, _ => exact (cell_of_block h 1).trans (congrArg (fun x => some (Value.int .u8 x)) (e v1 r1).symm)
    | 2, _ => exact (cell_of_block h 2).trans (congrArg (fun x => some (Value.int .u8 x)) (e v2 r2).symm)
    | 3, _ => exact (cell_of_block h 3).trans (congrArg (fun x => some (Value.int .u8 x)) (e v3 r3).symm))
set_option maxHeartbeats 1600000 in
theorem cbytes_any (y : Int) (w : World) (h0 : 0 ≤ y) (h1 : y < 4294967296) :
    Calls Tryz.prog 227 #[.int .u32 y] w fun e w' => (∃ t : ByteArray, e = .returned (.string t) ∧ t.size = 4) ∧ Below w.heap.size w w' := by
  go_enter Tryz.func227, Tryz.ntmps227
  go_wp2_with fail
  generalize hW : World.alloc _ _ = W
  have hg : W.heap[w.heap.size]? = some (.cells #[.int .u8 (y % 256), .int .u8 (y / 256 % 256), .int .u8 (y / 65536 % 256), .int .u8 (y / 16777216)] 5 (0, 0)) := by rw [← hW]; exact block_new _ _ _ _ rfl
  have hb : Below w.heap.size w W := by rw [← hW]; (repeat (first | exact Below.refl _ _ | assumption | refine Below.drew ?_ | refine below_drewN ?_ _ | refine Below.alloc ?_ (by first | omega | (simp; done) | (simp; omega) | (simp at *; omega)) _ | refine Below.setCell ?_ (by first | omega | (simp; done) | (simp; omega)) _ | refine Below.trans ?_ (Below.mono (by assumption) (by first | omega | (simp; done) | (simp; omega) | (simp at *; omega)))))
  obtain ⟨t, ht, hcv⟩ := conv4 W w.heap.size _ _ _ _ hg (by omega) (by omega) (by omega) (by omega)
  clear hW hg
  rw [hcv]
  simp only [Result.andThen]
  rw [Oper.upon_value]
  go_wp2
  go_ret
  exact ⟨⟨t, rfl, ht⟩, hb⟩
set_option maxHeartbeats 1600000 in
theorem seal_any (s : ByteArray) (w : World) (hs : s.size ≤ 100000) :
    Calls Tryz.prog 176 #[.string s] w fun e w' => (∃ t : ByteArray, e = .returned (.string (s ++ t)) ∧ t.size = 4) ∧ Below w.heap.size w w' := by
  go_enter Tryz.func176, Tryz.ntmps176
  go_wp2_with (first
    | (go_at_call 228; refine (csum_any _ s _ (block_new _ _ _ _ rfl) hs).mono ?_; rintro e w1 ⟨⟨y, rfl, h0, h1⟩, hb1⟩)
    | (go_at_call 227; refine (cbytes_any y _ h0 h1).mono ?_; rintro e w2 ⟨⟨t, rfl, ht⟩, hb2⟩)
    | fail)
  go_ret
  exact ⟨⟨t, rfl, ht⟩, ((Below.refl _ w).alloc (Nat.le_refl _) _).trans ((hb1.mono (by simp)).trans (hb2.mono (Nat.le_trans (by simp) hb1.size)))⟩
theorem bAt_alloc {B b : Nat} {p : Value} {bs : List Value} {w : World} (h : Lib.BuilderAt 106 5 B b p bs w) (o : Obj) : Lib.BuilderAt 106 5 B b p bs (w.alloc o) := by
  obtain ⟨hB, v, hb, hown, hne⟩ := h
  exact ⟨hB, v, block_old o hb (lt_of_block' hb), hown.alloc o, hne⟩
theorem isB_alloc {B b : Nat} {bs : List Value} {w : World} (h : IsB B b bs w) (o : Obj) : IsB B b bs (w.alloc o) := h.imp (bAt_alloc · o) (bAt_alloc · o)
theorem isB_lt {B b : Nat} {bs : List Value} {w : World} (h : IsB B b bs w) : b < w.heap.size := h.elim Lib.BuilderAt.lt Lib.BuilderAt.lt
set_option maxHeartbeats 2000000 in
theorem write_any (B b : Nat) (bs : List Value) (ad : Addr) (m c : Nat) (news : List Value) (w : World) (h : IsB B b bs w)
    (hl : news.length = m) (hnews : ∀ j u, news[j]? = some u → w.cell? (ad.add j) = some u) (hadB : ad.block ≠ b) (h1 : ∀ u ∈ news, u.oneCell' = true)
    (hlen : bs.length + m ≤ 140737488355328) (hBw : B ≤ w.heap.size) :
    Calls Tryz.prog 177 #[.pointer (some ⟨b, 0, none⟩), .slice (some ad) m c] w fun e w' => e = .returned (.tuple #[.int .i64 m, .nilIface]) ∧ (BAt B b (bs ++ news) w' ∧ Below B w w') := by
  obtain ⟨i0, hi, hz0, hz1, hz2⟩ := info_parts info_byte
  have HNEWS := Lib.hid hnews
  clear hnews
  go_enter Tryz.func177, Tryz.ntmps177
  go_wp2_with (go_at_call 174; refine (copyCheck_any' B b bs _ h).mono ?_)
  rintro e w1 ⟨rfl, h1', hb1, hk1⟩
  obtain ⟨hB, v, hbk, hown, hne⟩ := h1'
  have c0 : w1.cell? ⟨b, 0, none⟩ = some (.pointer (some ⟨b, 0, none⟩)) := by rw [Lib.cell_of_heap hbk]; rfl
  have c1 : w1.cell? ⟨b, 1, none⟩ = some v := by rw [Lib.cell_of_heap hbk]; rfl
  have hnews1 : ∀ j u, news[j]? = some u → w1.cell? (ad.add j) = some u := fun j u hj => by
    have hbl : (ad.add j).block ≠ b := by unfold Addr.add; split <;> exact hadB
    have := hk1 _ hbl
    simp only [World.cell?, this]
    exact HNEWS.out j u hj
  go_wp2_with (at_builtin; refine wpList_append_own _ rfl _ _ 58 rfl B 5 i0 (.int .u8 0) 1 1 Tryz.underlying58 hi hz0 hz1 hz2 rfl (by decide) _ _ _ rfl hown ad m c news rfl (by omega) hnews1 h1 ?c3 ?c4 ?c5 ?_)
  case c3 => unfold maxLen; omega
  case c4 => omega
  case c5 => have := hb1.size; omega
  intro v' w2 hown' hgrow _
  have hlt : b < w1.heap.size := lt_of_block' hbk
  have hb2 : w2.heap[b]? = some (.cells #[.pointer (some ⟨b, 0, none⟩), v] 106 (0, 0)) := by
    rw [hgrow.block b hlt (fun e => hne e.symm)]
    exact hbk
  have d0 : w2.cell? ⟨b, 0, none⟩ = some (.pointer (some ⟨b, 0, none⟩)) := by rw [Lib.cell_of_heap hb2]; rfl
  have d1 : w2.cell? ⟨b, 1, none⟩ = some v := by rw [Lib.cell_of_heap hb2]; rfl
  have f1 : w2.frozen? ⟨b, 1, none⟩ = false := Lib.frozen_of_heap hb2 1
  obtain ⟨ao, n', cap, rfl⟩ : ∃ ao n' cap, v' = .slice ao n' cap := by
    rcases hown'.2 with ⟨hv, _⟩ | ⟨g, cap, cur, hv, _⟩
    · exact ⟨_, _, _, hv⟩
    · exact ⟨_, _, _, hv⟩
  go_wp2
  go_ret2
  refine ⟨rfl, ?_, ?_⟩
  · exact Lib.BuilderAt.put (T := 106) (e := 5) hB hb2 (bs' := bs ++ news) (by simpa [hl] using hown') (by decide)
  · exact (hb1.grown hgrow (by have := hb1.size; omega) (fun k hk => (hown.lt k hk).1)).setCell (p := ⟨b, 1, none⟩) hB _
set_option maxHeartbeats 3200000 in
theorem wrap_any (s : ByteArray) (w : World) (hs : s.size = 10) :
    Calls Tryz.prog 118 #[.string s] w fun e w' => (∃ r : ByteArray, e = .returned (.string r) ∧ r.size = 18) ∧ Below w.heap.size w w' := by
  have hsz := fSize_any 10
  have hse := fun w => seal_any s w (by omega)
  have HSZ := Lib.hid hsz
  have HSE := Lib.hid hse
  clear hsz hse
  go_enter Tryz.func118, Tryz.ntmps118
  go_wp2_with (first
    | (go_at_call 53; refine (HSZ.out _ (by decide) (by decide)).mono ?_; rintro e w1 ⟨rfl, hw1⟩; obtain rfl := hw1.symm)
    | (go_at_call 176; refine (HSE.out _).mono ?_; rintro e w2 ⟨⟨t, rfl, ht⟩, hb2⟩)
    | fail)
  generalize hW : World.alloc (World.alloc _ _) _ = W
  have hz2 := hb2.size
  have hbd : W.heap[w2.heap.size]? = some (.cells #[.pointer none, .slice none 0 0] 106 (0, 0)) := by rw [← hW]; exact block_old _ (block_new _ _ _ _ rfl) (by simp)
  have hbn : W.heap[w2.heap.size + 1]? = some (.cells #[.int .u8 165, .int .u8 10, .int .u8 0] 5 (0, 0)) := by rw [← hW]; exact block_new _ _ _ _ (by simp)
  have hbW : Below w2.heap.size w2 W := by rw [← hW]; (repeat (first | exact Below.refl _ _ | assumption | refine Below.drew ?_ | refine below_drewN ?_ _ | refine Below.alloc ?_ (by first | omega | (simp; done) | (simp; omega) | (simp at *; omega)) _ | refine Below.setCell ?_ (by first | omega | (simp; done) | (simp; omega)) _ | refine Below.trans ?_ (Below.mono (by assumption) (by first | omega | (simp; done) | (simp; omega) | (simp at *; omega)))))
  have hI : IsB w2.heap.size w2.heap.size [] W := Or.inl ⟨Nat.le_refl _, .slice none 0 0, hbd, ⟨rfl, Or.inl ⟨rfl, rfl⟩⟩, by intro h; cases h⟩
  obtain ⟨b, hb⟩ : ∃ b, b = w2.heap.size := ⟨_, rfl⟩
  have hlW := lt_of_block' hbn
  have hBw : Below w.heap.size w W := hb2.trans (hbW.mono hz2)
  rw [← hb] at hI hbn hlW hz2 ⊢
  have HBW := Lib.hid hBw
  clear hW hbd hbW hb2 hb hBw
  refine (write_any b b [] ⟨b + 1, 0, none⟩ 3 3 [.int .u8 165, .int .u8 10, .int .u8 0] W hI rfl ?n1 (show b + 1 ≠ b by omega) ?n2 (by decide) (by omega)).mono ?_
  case n1 =>
    intro i u hi
    match i, hi with
    | 0, hi => cases hi; exact (cell_of_block hbn 0).trans rfl
    | 1, hi => cases hi; exact (cell_of_block hbn 1).trans rfl
    | 2, hi => cases hi; exact (cell_of_block hbn 2).trans rfl
  case n2 =>
    intro u hu
    simp at hu
    rcases hu with rfl | rfl | rfl <;> rfl
  rintro e w3 ⟨rfl, h3, hb3⟩
  have hz3 := hb3.size
  have H3 := Lib.hid h3
  have HB3 := Lib.hid (HBW.out.trans (hb3.mono hz2))
  clear h3 hb3 hI hbn
  go_wp2_with fail
  obtain ⟨x, hx⟩ : ∃ x, x = (s ++ t).extract 10 14 ++ s := ⟨_, rfl⟩
  have hxs : x.size = 14 := by
    rw [hx, ByteArray.size_append, ByteArray.size_extract, ByteArray.size_append]; omega
  rw [← hx]
  clear hx
  refine (writeString_any b b _ x _ (Or.inr H3.out) (by simp; omega) (by omega)).mono ?_
  rintro e w4 ⟨rfl, h4, hb4⟩
  have hz4 := hb4.size
  have H4 := Lib.hid h4
  have HB4 := Lib.hid (HB3.out.trans (hb4.mono hz2))
  clear h4 hb4
  go_wp2_with fail
  refine (writeByte_any b b _ 90 _ (Or.inr H4.out) (by simp [Lib.strCells_length]; omega) (by omega)).mono ?_
  rintro e w5 ⟨rfl, h5, hb5⟩
  have hz5 := hb5.size
  have hfin : IsB b b (Lib.byteCells ([165, 10, 0] ++ x.data.toList ++ [90])) w5 := by
    have e : Lib.byteCells ([165, 10, 0] ++ x.data.toList ++ [90]) = [] ++ [.int .u8 165, .int .u8 10, .int .u8 0] ++ Lib.strCells x ++ [.int .u8 90] := by
      simp [Lib.byteCells, Lib.strCells]
    rw [e]; exact Or.inr h5
  have HB5 := Lib.hid (HB4.out.trans (hb5.mono hz2))
  have HF := Lib.hid hfin
  clear h5 hb5 hfin
  go_wp2_with fail
  refine (Tryz.Builder_String_any b b _ _ HF.out (by omega)).mono ?_
  rintro e w6 ⟨rfl, hb6⟩
  have HB6 := Lib.hid (HB5.out.trans (hb6.mono hz2))
  clear hb6
  obtain ⟨R, hR⟩ : ∃ R : ByteArray, R = ⟨([165, 10, 0] ++ x.data.toList ++ [90]).toArray⟩ := ⟨_, rfl⟩
  have hRs : R.size = 18 := by
    rw [hR]; show ([165, 10, 0] ++ x.data.toList ++ [90]).toArray.size = 18
    have : x.data.toList.length = 14 := hxs
    simp [this]
  rw [← hR]
  clear hR
  go_wp2
  go_ret
  exact ⟨⟨R, rfl, hRs⟩, HB6.out⟩
end Go.Proofs.YtamoenjempnlhaaGreatDoor
