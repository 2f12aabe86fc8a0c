import Derived.Test.YtgjiicjbkmcecaaDoorM11
import Derived.Lib.ConvBytes
import Derived.Laws.IdiomStrings
namespace Go.Proofs.YtgjiicjbkmcecaaDoor
open Go.RowKit
set_option maxRecDepth 100000
set_option maxHeartbeats 1600000 in
theorem meterSum_any (m : Option Nat) (n : Int) (bk o c : Nat) (xs : List ByteArray) (w : World) (hm : holdsN m n w) (hcells : ∀ (j : Nat) x, xs[j]? = some x → w.cell? ⟨bk, o + j, none⟩ = some (.string x)) (hbk : bk < w.heap.size) (hne : ∀ B, m = some B → B ≠ bk) (hN : xs.length ≤ 140737488355328) (hcap : xs.length ≤ c)
    (hlen : (joined xs).size ≤ 1073741824) :
    Calls Tryd.prog 19 #[mval m, .slice (some ⟨bk, o, none⟩) xs.length c] w fun e w' => e = .returned (.string (shaS (joined xs))) ∧ Below w.heap.size (tick m (n + 1) w) w' := by
  have HC := Lib.hid hcells
  clear hcells
  cases m with
  | none =>
    go_enter Tryd.func19, Tryd.ntmps19
    simp only [mval, Option.map_none]
    go_wp2_with (first
      | (go_at_call 11; refine (sum_any bk o c xs _ HC.out hbk hN hcap hlen).mono ?_; rintro e w1 ⟨rfl, hb1⟩)
      | fail)
    go_ret
    exact ⟨rfl, hb1⟩
  | some B =>
    obtain ⟨h1, h2, h3, h4⟩ := hm B rfl
    have hBk := hne B rfl
    go_enter Tryd.func19, Tryd.ntmps19
    simp only [mval, Option.map_some]
    go_wp2_with (first
      | (go_at_call 34; refine (add_any B n _ hm).mono ?_; rintro e w1 ⟨rfl, rfl⟩)
      | (go_at_call 11; refine (sum_any bk o c xs _ (fun j x hj => (World.cell?_of_block (a := ⟨bk, o + j, none⟩) (setCell_far rfl (Ne.symm hBk) 0 _)).trans (HC.out j x hj)) (by rw [size_setCell]; exact hbk) hN hcap hlen).mono ?_; rintro e w2 ⟨rfl, hb2⟩)
      | fail)
    go_ret
    exact ⟨rfl, by rw [size_setCell] at hb2; exact hb2⟩
/-- One byte is appended in the room that is. -/
theorem run_append_one {P : Program} (w : World) (t ty e : TypeId) (i : TypeInfo) (ht : P.underlying t = some (.slice e)) (hi : P.info? e = some i) (hi1 : i.size = 1)
    (g n cap : Nat) (u : Value) (hg : w.cell? ⟨g, n, none⟩ = some u) (hf : w.frozen? ⟨g, n, none⟩ = false)
    (a : Addr) (v : Value) (hv : w.cell? a = some v) (h1 : v.oneCell' = true) (hroom : n + 1 ≤ cap) :
    (Builtin.append_ #[t, t] ty #[.slice (some ⟨g, 0, none⟩) n cap, .slice (some a) 1 1]).run P w =
      .ok (.slice (some ⟨g, 0, none⟩) (n + 1) cap) (w.setCell ⟨g, n, none⟩ v) := by
  have hfc := run_firstCells_some (P := P) w i.size 1 a 1 1 [v] (by rw [hi1]; rfl) (fun j u hj => by
    match j, hj with
    | 0, hj => simp at hj; subst hj; simpa [Addr.add] using hv)
  rw [hi1] at hfc
  have hst := run_storeCells_cells (P := P) g n [v] 0 w
    (fun j hj => by
      have h0 : j = 0 := Nat.lt_one_iff.1 hj
      subst h0; exact Option.isSome_iff_exists.2 ⟨u, hg⟩)
    (fun j hj => by
      have h0 : j = 0 := Nat.lt_one_iff.1 hj
      subst h0; exact hf) (by simpa using h1)
  simp [Builtin.append_, run_underlying ht, sizeOf, typeInfo, hi, Builtin.lenOf, hroom, Addr.add_lit, hi1, hfc, hst, World.setCells]
theorem wpList_append_one {P : Program} {ops : Array Oper} {rest : List Oper} {o : Oper} {act : Act} {w : World} {Q : Exit → Act → World → Prop} (hgd : o.guard = none) (s x : Operand) (t : TypeId)
    (ho : o.op = .call { callee := .builtin .append, args := #[s, x], argTypes := #[t, t] }) (e : TypeId) (i : TypeInfo) (ht : P.underlying t = some (.slice e)) (hi : P.info? e = some i) (hi1 : i.size = 1)
    (g n cap : Nat) (u : Value) (hg : w.cell? ⟨g, n, none⟩ = some u) (hf : w.frozen? ⟨g, n, none⟩ = false)
    (a : Addr) (v : Value) (hv : w.cell? a = some v) (h1 : v.oneCell' = true) (hroom : n + 1 ≤ cap) (hs : act.eval s = .slice (some ⟨g, 0, none⟩) n cap) (hx : act.eval x = .slice (some a) 1 1)
    (h : wpList P ops Q rest (act.put o.dst (.slice (some ⟨g, 0, none⟩) (n + 1) cap)) (w.setCell ⟨g, n, none⟩ v)) : wpList P ops Q (o :: rest) act w := by
  refine wpList_plain hgd fun K hK => ?_
  have hr := run_append_one (P := P) w t o.type e i ht hi hi1 g n cap u hg hf a v hv h1 hroom
  unfold Oper.wp execOp
  simp only [ho, resolve, invoke, builtin, Sem.run_bind, Sem.run_pure, Result.andThen_ok, List.map_toArray, List.map_cons, List.map_nil, hs, hx, hr]
  exact hK _ _ h
def lowB (c : UInt8) : UInt8 := if 65 ≤ c ∧ c ≤ 90 then c + 32 else c
def keepB (c : UInt8) : Bool := !(c == 32 || c == 9 || c == 45)
def cleanL (l : List UInt8) : List UInt8 := (l.map lowB).filter keepB
theorem cleanL_next (l : List UInt8) (j : Nat) (hj : j < l.length) : cleanL (l.take (j + 1)) = cleanL (l.take j) ++ (if keepB (lowB (l.getD j 0)) then [lowB (l.getD j 0)] else []) := by
  have e : l.take (j + 1) = l.take j ++ [l.getD j 0] := by
    rw [List.take_add_one, List.getD_eq_getElem?_getD, List.getElem?_eq_getElem hj]; rfl
  rw [e, cleanL, List.map_append, List.filter_append]
  congr 1
  simp only [List.map_cons, List.map_nil, List.filter_cons, List.filter_nil]
theorem lowB_all : ∀ c : UInt8, c.toNat < 128 → (lowB c).toNat < 128 ∧ (65 ≤ c.toNat ∧ c.toNat ≤ 90 → (lowB c).toNat = c.toNat + 32) ∧ (¬ (65 ≤ c.toNat ∧ c.toNat ≤ 90) → (lowB c).toNat = c.toNat) := by
  intro c hc
  unfold lowB
  have h1 : (65 ≤ c) ↔ 65 ≤ c.toNat := by rw [UInt8.le_iff_toNat_le]; rfl
  have h2 : (c ≤ 90) ↔ c.toNat ≤ 90 := by rw [UInt8.le_iff_toNat_le]; rfl
  by_cases h : 65 ≤ c.toNat ∧ c.toNat ≤ 90
  · rw [if_pos (show 65 ≤ c ∧ c ≤ 90 from ⟨h1.2 h.1, h2.2 h.2⟩)]
    have : (c + 32).toNat = c.toNat + 32 := by rw [UInt8.toNat_add]; show (c.toNat + 32) % 256 = _; omega
    exact ⟨by omega, fun _ => this, fun h' => absurd h h'⟩
  · rw [if_neg (show ¬ (65 ≤ c ∧ c ≤ 90) from fun h' => h ⟨h1.1 h'.1, h2.1 h'.2⟩)]
    exact ⟨hc, fun h' => absurd h' h, fun _ => rfl⟩
theorem lowB_small (c : UInt8) (hc : c.toNat < 128) : (lowB c).toNat < 128 := (lowB_all c hc).1
theorem or32 : ∀ k : Nat, k < 26 → bits BinOp.or IntKind.u8 ((65 + k : Nat) : Int) 32 = ((97 + k : Nat) : Int) := by decide
theorem lowB_bits (c : UInt8) (hc : c.toNat < 128) : (65 ≤ c.toNat ∧ c.toNat ≤ 90 → bits BinOp.or IntKind.u8 (c.toNat : Int) 32 = ((lowB c).toNat : Int)) ∧ (¬ (65 ≤ c.toNat ∧ c.toNat ≤ 90) → c.toNat = (lowB c).toNat) := by
  obtain ⟨_, h1, h2⟩ := lowB_all c hc
  refine ⟨fun h => ?_, fun h => (h2 h).symm⟩
  rw [h1 h]
  have := or32 (c.toNat - 65) (by omega)
  rw [show 65 + (c.toNat - 65) = c.toNat by omega, show 97 + (c.toNat - 65) = c.toNat + 32 by omega] at this
  exact this
theorem contains_keep (d : UInt8) : decide (0 ≤ Lib.indexByte [32, 9, 45] d) = !keepB d := by
  by_cases h1 : d = 32
  · subst h1; rfl
  · by_cases h2 : d = 9
    · subst h2; rfl
    · by_cases h3 : d = 45
      · subst h3; rfl
      · have e1 : ((32 : UInt8) == d) = false := by simpa using Ne.symm h1
        have e2 : ((9 : UInt8) == d) = false := by simpa using Ne.symm h2
        have e3 : ((45 : UInt8) == d) = false := by simpa using Ne.symm h3
        simp [Lib.indexByte, keepB, e1, e2, e3, h1, h2, h3]
theorem contains_any (d : UInt8) (p : Nat) (hp : p = d.toNat) (h : p < 128) (w : World) :
    Calls Tryd.prog 35 #[.string ⟨#[32, 9, 45]⟩, .int .i32 p] w fun e w' => e = .returned (.bool (!keepB d)) ∧ w' = w := by
  refine (Tryd.strings_ContainsRune_ascii ⟨#[32, 9, 45]⟩ p w (by omega) (by omega)).mono fun e w' h => ⟨?_, h.2⟩
  rw [h.1, ← contains_keep d]
  have : (p : Int).toNat.toUInt8 = d := by
    rw [hp, Int.toNat_natCast]; exact UInt8.ofNat_toNat
  rw [this]
theorem byteInfo : ∃ i, Tryd.prog.info? 5 = some i ∧ i.size = 1 := by
  obtain ⟨i0, hi, hz0, hz1, hz2⟩ := info_parts info_byte
  exact ⟨i0, hi, hz1⟩
theorem cell_alloc_lt {w : World} {b j : Nat} {u : Option Value} (o : Obj) (hb : b < w.heap.size) (h : w.cell? ⟨b, j, none⟩ = u) : (w.alloc o).cell? ⟨b, j, none⟩ = u :=
  (World.cell?_alloc_lt w o ⟨b, j, none⟩ hb).trans h
theorem frozen_alloc_lt {w : World} {b j : Nat} (o : Obj) (hb : b < w.heap.size) (h : w.frozen? ⟨b, j, none⟩ = false) : (w.alloc o).frozen? ⟨b, j, none⟩ = false :=
  (World.frozen?_of_block (a := ⟨b, j, none⟩) (Below.heap_alloc w o b hb)).trans h
theorem cell_set_ne {w : World} {b n k : Nat} (v : Value) (h : k ≠ n) : (w.setCell ⟨b, n, none⟩ v).cell? ⟨b, k, none⟩ = w.cell? ⟨b, k, none⟩ := by
  have := World.cell?_setCells_out b [v] n w ⟨b, k, none⟩ (fun _ _ => by simp; omega)
  exact this
structure CleanInv (w0 : World) (N : Nat) (l : List UInt8) (j : Nat) (wr : World) : Prop where
  below : Below w0.heap.size w0 wr
  lt : w0.heap.size < wr.heap.size
  free : ∀ k, k < N → wr.frozen? ⟨w0.heap.size, k, none⟩ = false
  out : ∀ k, k < (cleanL (l.take j)).length → wr.cell? ⟨w0.heap.size, k, none⟩ = some (.int .u8 ((cleanL (l.take j)).getD k 0).toNat)
  rest : ∀ k, j ≤ k → k < N → wr.cell? ⟨w0.heap.size, k, none⟩ = some (.int .u8 (l.getD k 0).toNat)
  has : ∀ k, k < N → ∃ u, wr.cell? ⟨w0.heap.size, k, none⟩ = some u
theorem cleanL_take_le (l : List UInt8) (j : Nat) : (cleanL (l.take j)).length ≤ j :=
  Nat.le_trans (List.length_filter_le _ _) (by rw [List.length_map, List.length_take]; omega)
theorem CleanInv.skip {w0 : World} {N : Nat} {l : List UInt8} {j : Nat} {wr : World} (h : CleanInv w0 N l j wr) (e : cleanL (l.take (j + 1)) = cleanL (l.take j)) : CleanInv w0 N l (j + 1) wr :=
  ⟨h.below, h.lt, h.free, by rw [e]; exact h.out, fun k hk hkN => h.rest k (by omega) hkN, h.has⟩
theorem CleanInv.alloc {w0 : World} {N : Nat} {l : List UInt8} {j : Nat} {wr : World} (h : CleanInv w0 N l j wr) (o : Obj) : CleanInv w0 N l j (wr.alloc o) :=
  ⟨h.below.alloc (Nat.le_of_lt h.lt) _, by simp; exact Nat.lt_succ_of_lt h.lt, fun k hk => frozen_alloc_lt o h.lt (h.free k hk), fun k hk => cell_alloc_lt o h.lt (h.out k hk), fun k hk hk' => cell_alloc_lt o h.lt (h.rest k hk hk'), fun k hk => by
    obtain ⟨u', hu'⟩ := h.has k hk
    exact ⟨u', cell_alloc_lt o h.lt hu'⟩⟩
theorem CleanInv.append {w0 : World} {N : Nat} {l : List UInt8} {j : Nat} {wr : World} (h : CleanInv w0 N l j wr) {n : Nat} (hn : n = (cleanL (l.take j)).length) (hjN : j < N) (d : UInt8) (p : Nat) (hp : p = d.toNat)
    (e : cleanL (l.take (j + 1)) = cleanL (l.take j) ++ [d]) : CleanInv w0 N l (j + 1) (wr.setCell ⟨w0.heap.size, n, none⟩ (.int .u8 p)) := by
  have hnj : n ≤ j := by rw [hn]; exact cleanL_take_le l j
  obtain ⟨u, hu⟩ := h.has n (by omega)
  have hs : (wr.setCell ⟨w0.heap.size, n, none⟩ (.int .u8 p)).cell? ⟨w0.heap.size, n, none⟩ = some (.int .u8 p) := World.cell?_setCell_same' _ _ _ (by rw [hu]; rfl)
  refine ⟨h.below.setCell (p := ⟨w0.heap.size, n, none⟩) (Nat.le_refl _) _, by rw [size_setCell]; exact h.lt, fun k hk => by rw [World.frozen?_setCell]; exact h.free k hk, ?_, ?_, ?_⟩
  · intro k hk
    rw [e, List.length_append, ← hn] at hk
    by_cases hkn : k = n
    · subst hkn
      rw [hs, e, List.getD_eq_getElem?_getD, List.getElem?_append_right (by omega), hn, Nat.sub_self, hp]
      rfl
    · have hk' : k < n := by simp at hk; omega
      rw [cell_set_ne _ hkn, h.out k (by omega), e, List.getD_eq_getElem?_getD, List.getD_eq_getElem?_getD, List.getElem?_append_left (by omega)]
  · intro k hk hkN
    rw [cell_set_ne _ (by omega)]
    exact h.rest k (by omega) hkN
  · intro k hk
    by_cases hkn : k = n
    · subst hkn; exact ⟨_, hs⟩
    · obtain ⟨u', hu'⟩ := h.has k hk
      exact ⟨u', by rw [cell_set_ne _ hkn]; exact hu'⟩
set_option maxHeartbeats 6400000 in
theorem clean_any (s : ByteArray) (l : List UInt8) (hl : l = s.data.toList) (w : World) (hs : s.size ≤ 1073741824) (hasc : ∀ b ∈ l, b < 128) :
    Calls Tryd.prog 20 #[.string s] w fun e w' => e = .returned (.string ⟨(cleanL l).toArray⟩) ∧ Below w.heap.size w w' := by
  have hcv := fun w => Lib.run_convert_string_bytes (P := Tryd.prog) w 9 40 5 s Tryd.underlying9 Tryd.underlying40 Tryd.underlying5
  have HASC := Lib.hid hasc
  clear hasc
  go_enter Tryd.func20, Tryd.ntmps20
  go_wp2_with fail
  obtain ⟨cap, hcap⟩ : ∃ cap, cap = grownCap w s.size 0 5 := ⟨_, rfl⟩
  have hcs : s.size ≤ cap := by rw [hcap]; exact grownCap_ge _ _ _ _
  have hcells : ∀ j, j < s.size → (Lib.bytesWorld w 5 s).cell? ⟨w.heap.size, j, none⟩ = some (.int .u8 (s.data.toList.getD j 0).toNat) := fun j hj => Lib.bytesWorld_cell w _ s j hj
  have hbelow : Below w.heap.size w (Lib.bytesWorld w 5 s) := ⟨rfl, rfl, rfl, by rw [Lib.bytesWorld_size]; omega, fun b hb => Lib.bytesWorld_at_old w _ s b hb⟩
  have hfree : ∀ j, j < s.size → (Lib.bytesWorld w 5 s).frozen? ⟨w.heap.size, j, none⟩ = false := fun j hj => by
    have : s.size ≤ (Lib.bytesCells w 5 s).size := by simp [Lib.bytesCells]
    simp [World.frozen?, Lib.bytesWorld_at_new]
    omega
  have hsz0 : (Lib.bytesWorld w 5 s).heap.size = w.heap.size + 1 := Lib.bytesWorld_size _ _ _
  rw [← hcap]
  generalize Lib.bytesWorld w 5 s = W0 at hcells hbelow hfree hsz0 ⊢
  rw [← hl] at hcells
  have HI0 : CleanInv w s.size l 0 W0 := ⟨hbelow, by omega, hfree, fun k hk => absurd hk (by simp [cleanL]), fun k _ hk => hcells k hk, fun k hk => ⟨_, hcells k hk⟩⟩
  clear hcells hfree hcv hcap hbelow hsz0
  have hll : l.length = s.size := by rw [hl]; rfl
  have HL := Lib.hid hll
  clear hl hll
  go_loopg [4, 13] s.size (fun g u v wr => ∃ j : Nat, g = s.size - j ∧ j ≤ s.size ∧ u = .slice (some ⟨w.heap.size, 0, none⟩) (cleanL (l.take j)).length cap ∧ v = .int .i64 j ∧ CleanInv w s.size l j wr)
  case atStart => exact ⟨0, rfl, by omega, rfl, rfl, HI0⟩
  case round =>
    obtain ⟨j, rfl, hj, rfl, rfl, hI⟩ := hrel
    obtain ⟨n, hn⟩ : ∃ n, n = (cleanL (l.take j)).length := ⟨_, rfl⟩
    have hnj : n ≤ j := by rw [hn]; exact cleanL_take_le l j
    rw [← hn]
    have hgl := hI.lt
    by_cases hjl : j < s.size
    · obtain ⟨c, hc⟩ : ∃ c, c = l.getD j 0 := ⟨_, rfl⟩
      have hcl : c ∈ l := by rw [hc, List.getD_eq_getElem?_getD, List.getElem?_eq_getElem (by rw [HL.out]; exact hjl)]; exact List.getElem_mem _
      have hc128 : c.toNat < 128 := HASC.out c hcl
      have hcell : wr.cell? ⟨w.heap.size, j, none⟩ = some (.int .u8 c.toNat) := by rw [hc]; exact hI.rest j (Nat.le_refl _) hjl
      obtain ⟨u0, hu0⟩ := hI.has n (by omega)
      have hf0 := hI.free n (by omega)
      obtain ⟨d, hd⟩ : ∃ d, d = lowB c := ⟨_, rfl⟩
      obtain ⟨p, hp⟩ : ∃ p, p = d.toNat := ⟨_, rfl⟩
      have htk : cleanL (l.take (j + 1)) = cleanL (l.take j) ++ (if keepB d then [d] else []) := by
        rw [hd, hc]; exact cleanL_next l j (by rw [HL.out]; exact hjl)
      have hp128 : p < 128 := by rw [hp, hd]; exact lowB_small c hc128
      have hct := contains_any d p hp hp128
      have hlow : (65 ≤ c.toNat ∧ c.toNat ≤ 90 → bits BinOp.or IntKind.u8 (c.toNat : Int) 32 = (p : Int)) ∧ (¬ (65 ≤ c.toNat ∧ c.toNat ≤ 90) → c.toNat = p) := by
        rw [hp, hd]; exact lowB_bits c hc128
      obtain ⟨m, hm⟩ : ∃ m, m = c.toNat := ⟨_, rfl⟩
      rw [← hm] at hcell hc128 hlow
      have HN := Lib.hid hn
      have HI := Lib.hid hI
      have HTK := Lib.hid htk
      have HP := Lib.hid hp
      have HCT := Lib.hid hct
      have hu0' : ∀ o : Obj, (wr.alloc o).cell? ⟨w.heap.size, n, none⟩ = some u0 := fun o => cell_alloc_lt o hgl hu0
      have hf0' : ∀ o : Obj, (wr.alloc o).frozen? ⟨w.heap.size, n, none⟩ = false := fun o => frozen_alloc_lt o hgl hf0
      have HU := Lib.hid hu0'
      have HFZ := Lib.hid hf0'
      have hncap : n + 1 ≤ cap := by omega
      clear hn hI hc hm hd htk hct hp hu0 hf0 hcl hu0' hf0'
      obtain ⟨wo, rfl⟩ : ∃ wo : World, wo = wr := ⟨_, rfl⟩
      by_cases hup : 65 ≤ m ∧ m ≤ 90
      · have hbo := hlow.1 hup
        clear hlow
        obtain ⟨hup0, hup1⟩ := hup
        have d0 : decide ((65 : Int) ≤ (m : Int)) = true := by simp; omega
        have d1 : decide ((m : Int) ≤ 90) = true := by simp; omega
        by_cases hk : keepB d = true
        · rw [if_pos hk] at HTK
          rw [hk] at HCT
          go_wp2_with (first
            | (go_at_call 35; refine (HCT.out _).mono ?_; rintro e w3 ⟨rfl, rfl⟩)
            | (refine wpList_append_one rfl (.tmp 29) (.tmp 31) 40 rfl 5 _ Tryd.underlying40 byteInfo.choose_spec.1 byteInfo.choose_spec.2 w.heap.size n cap u0 (HU.out _) (HFZ.out _) ⟨_, 0, none⟩ (.int .u8 _) ((cell_of_block (block_new _ _ _ _ rfl) 0).trans rfl) rfl hncap rfl rfl ?_)
            | fail)
          go_roundg (s.size - (j + 1))
          case measure => omega
          case rel => exact ⟨j + 1, rfl, by omega, by rw [HTK.out, HN.out, List.length_append]; rfl, by go_num, (HI.out.append HN.out hjl d _ HP.out HTK.out).alloc _⟩
        · rw [if_neg hk, List.append_nil] at HTK
          rw [Bool.not_eq_true] at hk
          rw [hk] at HCT
          go_wp2_with (first
            | (go_at_call 35; refine (HCT.out _).mono ?_; rintro e w3 ⟨rfl, rfl⟩)
            | (refine wpList_append_one rfl (.tmp 29) (.tmp 31) 40 rfl 5 _ Tryd.underlying40 byteInfo.choose_spec.1 byteInfo.choose_spec.2 w.heap.size n cap u0 (HU.out _) (HFZ.out _) ⟨_, 0, none⟩ (.int .u8 _) ((cell_of_block (block_new _ _ _ _ rfl) 0).trans rfl) rfl hncap rfl rfl ?_)
            | fail)
          go_roundg (s.size - (j + 1))
          case measure => omega
          case rel => exact ⟨j + 1, rfl, by omega, by rw [HTK.out, HN.out], by go_num, HI.out.skip HTK.out⟩
      · have hbo := hlow.2 hup
        clear hlow
        subst hbo
        by_cases h65 : 65 ≤ m
        · have d0 : decide ((65 : Int) ≤ (m : Int)) = true := by simp; omega
          have d1 : decide ((m : Int) ≤ 90) = false := by simp; omega
          by_cases hk : keepB d = true
          · rw [if_pos hk] at HTK
            rw [hk] at HCT
            go_wp2_with (first
              | (go_at_call 35; refine (HCT.out _).mono ?_; rintro e w3 ⟨rfl, rfl⟩)
              | (refine wpList_append_one rfl (.tmp 29) (.tmp 31) 40 rfl 5 _ Tryd.underlying40 byteInfo.choose_spec.1 byteInfo.choose_spec.2 w.heap.size n cap u0 (HU.out _) (HFZ.out _) ⟨_, 0, none⟩ (.int .u8 _) ((cell_of_block (block_new _ _ _ _ rfl) 0).trans rfl) rfl hncap rfl rfl ?_)
              | fail)
            go_roundg (s.size - (j + 1))
            case measure => omega
            case rel => exact ⟨j + 1, rfl, by omega, by rw [HTK.out, HN.out, List.length_append]; rfl, by go_num, (HI.out.append HN.out hjl d _ HP.out HTK.out).alloc _⟩
          · rw [if_neg hk, List.append_nil] at HTK
            rw [Bool.not_eq_true] at hk
            rw [hk] at HCT
            go_wp2_with (first
              | (go_at_call 35; refine (HCT.out _).mono ?_; rintro e w3 ⟨rfl, rfl⟩)
              | (refine wpList_append_one rfl (.tmp 29) (.tmp 31) 40 rfl 5 _ Tryd.underlying40 byteInfo.choose_spec.1 byteInfo.choose_spec.2 w.heap.size n cap u0 (HU.out _) (HFZ.out _) ⟨_, 0, none⟩ (.int .u8 _) ((cell_of_block (block_new _ _ _ _ rfl) 0).trans rfl) rfl hncap rfl rfl ?_)
              | fail)
            go_roundg (s.size - (j + 1))
            case measure => omega
            case rel => exact ⟨j + 1, rfl, by omega, by rw [HTK.out, HN.out], by go_num, HI.out.skip HTK.out⟩
        · have d0 : decide ((65 : Int) ≤ (m : Int)) = false := by simp; omega
          by_cases hk : keepB d = true
          · rw [if_pos hk] at HTK
            rw [hk] at HCT
            go_wp2_with (first
              | (go_at_call 35; refine (HCT.out _).mono ?_; rintro e w3 ⟨rfl, rfl⟩)
              | (refine wpList_append_one rfl (.tmp 29) (.tmp 31) 40 rfl 5 _ Tryd.underlying40 byteInfo.choose_spec.1 byteInfo.choose_spec.2 w.heap.size n cap u0 (HU.out _) (HFZ.out _) ⟨_, 0, none⟩ (.int .u8 _) ((cell_of_block (block_new _ _ _ _ rfl) 0).trans rfl) rfl hncap rfl rfl ?_)
              | fail)
            go_roundg (s.size - (j + 1))
            case measure => omega
            case rel => exact ⟨j + 1, rfl, by omega, by rw [HTK.out, HN.out, List.length_append]; rfl, by go_num, (HI.out.append HN.out hjl d _ HP.out HTK.out).alloc _⟩
          · rw [if_neg hk, List.append_nil] at HTK
            rw [Bool.not_eq_true] at hk
            rw [hk] at HCT
            go_wp2_with (first
              | (go_at_call 35; refine (HCT.out _).mono ?_; rintro e w3 ⟨rfl, rfl⟩)
              | (refine wpList_append_one rfl (.tmp 29) (.tmp 31) 40 rfl 5 _ Tryd.underlying40 byteInfo.choose_spec.1 byteInfo.choose_spec.2 w.heap.size n cap u0 (HU.out _) (HFZ.out _) ⟨_, 0, none⟩ (.int .u8 _) ((cell_of_block (block_new _ _ _ _ rfl) 0).trans rfl) rfl hncap rfl rfl ?_)
              | fail)
            go_roundg (s.size - (j + 1))
            case measure => omega
            case rel => exact ⟨j + 1, rfl, by omega, by rw [HTK.out, HN.out], by go_num, HI.out.skip HTK.out⟩
    · obtain rfl : j = s.size := by omega
      have htake : l.take s.size = l := List.take_of_length_le (by rw [HL.out]; exact Nat.le_refl _)
      have hback := run_convert_bytes_back (P := Tryd.prog) wr 40 9 5 ⟨w.heap.size, 0, none⟩ cap (cleanL l) Tryd.underlying40 Tryd.underlying5 Tryd.underlying9 (fun k hk => by
        have := hI.out k (by rw [htake]; exact hk)
        rw [htake, List.getD_eq_getElem?_getD, List.getElem?_eq_getElem hk] at this
        rw [show (⟨w.heap.size, 0, none⟩ : Addr).add k = ⟨w.heap.size, k, none⟩ by unfold Addr.add; split <;> simp_all]
        exact this)
      rw [htake] at hn
      rw [← hn] at hback
      have HB := Lib.hid hI.below
      clear hI hn htake
      go_wp2
      go_ret
      exact ⟨rfl, HB.out⟩
end Go.Proofs.YtgjiicjbkmcecaaDoor
