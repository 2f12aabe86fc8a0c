import Derived.Test.YtgjiicjbkmcecaaDoorM6
import Derived.StillTailTactics
import Derived.Deep.Cut
import Derived.RangeFuncNested
import Derived.RangeFuncBound
import Derived.RangeFuncCalls
import Derived.RangeFuncLeaves
import Derived.OwnWalkIn
import Derived.TacticsInMore
import Derived.LoopNIn
import Derived.LoopIn
namespace Go.Proofs.YtgjiicjbkmcecaaDoor
open Go.RowKit
def byteAt (t : ByteArray) (i : Nat) : Int := if h : i < t.size then ((t[i]'h).toNat : Int) else 0
theorem byteAt_eq (t : ByteArray) (i : Nat) (h : i < t.size) : ((t[i]'h).toNat : Int) = byteAt t i := by simp [byteAt, h]
/-- The first sixteen words, byte by byte. -/
def packW (t : ByteArray) : Nat → List Int
  | 0 => List.replicate 64 0
  | i + 1 => (packW t i).set (i / 4) (bits BinOp.or IntKind.u32 ((packW t i).getD (i / 4) 0 * 256 % 4294967296) (byteAt t i % 4294967296))
theorem packW_len (t : ByteArray) (i : Nat) : (packW t i).length = 64 := by
  induction i with
  | zero => simp [packW]
  | succ i ih => simp [packW, ih]
theorem u32s_set (xs : List Int) (j : Nat) (v : Int) : (u32s xs).setIfInBounds j (.int .u32 v) = u32s (xs.set j v) := by
  apply Array.ext_getElem?
  intro k
  simp only [u32s, Array.getElem?_setIfInBounds, List.size_toArray, List.length_map, List.getElem?_toArray, List.getElem?_map, List.getElem?_set]
  split
  · split <;> simp
  · rfl
theorem set_bd {l : List Int} (h : ∀ k, 0 ≤ l.getD k 0 ∧ l.getD k 0 < 4294967296) (j : Nat) (v : Int) (hv : 0 ≤ v ∧ v < 4294967296) : ∀ k, 0 ≤ (l.set j v).getD k 0 ∧ (l.set j v).getD k 0 < 4294967296 := by
  intro k
  rw [List.getD_eq_getElem?_getD, List.getElem?_set]
  split
  · split
    · exact hv
    · simp
  · rw [← List.getD_eq_getElem?_getD]; exact h k
theorem packW_bd (t : ByteArray) (i : Nat) : ∀ k, 0 ≤ (packW t i).getD k 0 ∧ (packW t i).getD k 0 < 4294967296 := by
  induction i with
  | zero =>
    intro k
    rw [List.getD_eq_getElem?_getD, packW, List.getElem?_replicate]
    split <;> simp
  | succ i ih => exact set_bd ih _ _ (bits_u32_bd _ _ _)
/-- One more word, as the walk spells it. -/
def schedF (ws : List Int) (j : Nat) : Int :=
  (ws.getD j 0 + ws.getD (j + 9) 0 + bits BinOp.xor IntKind.u32 (bits BinOp.xor IntKind.u32 (rr (ws.getD (j + 1) 0) 7) (rr (ws.getD (j + 1) 0) 18)) (ws.getD (j + 1) 0 / 8) +
    bits BinOp.xor IntKind.u32 (bits BinOp.xor IntKind.u32 (rr (ws.getD (j + 14) 0) 17) (rr (ws.getD (j + 14) 0) 19)) (ws.getD (j + 14) 0 / 1024)) % 4294967296
def schedW (w16 : List Int) : Nat → List Int
  | 0 => w16
  | j + 1 => (schedW w16 j).set (j + 16) (schedF (schedW w16 j) j)
theorem schedW_len (w16 : List Int) (h : w16.length = 64) (j : Nat) : (schedW w16 j).length = 64 := by
  induction j with
  | zero => exact h
  | succ j ih => simp [schedW, ih]
theorem schedF_bd (ws : List Int) (j : Nat) : 0 ≤ schedF ws j ∧ schedF ws j < 4294967296 := by
  unfold schedF; omega
theorem schedW_bd (w16 : List Int) (h : ∀ k, 0 ≤ w16.getD k 0 ∧ w16.getD k 0 < 4294967296) (j : Nat) : ∀ k, 0 ≤ (schedW w16 j).getD k 0 ∧ (schedW w16 j).getD k 0 < 4294967296 := by
  induction j with
  | zero => exact h
  | succ j ih => exact set_bd ih _ _ (schedF_bd _ _)
theorem info64 {xs : List Int} (h : xs.length = 64) : (Tryd.prog.info? 57).map (·.size) = some (u32s xs).size := by
  have e : (Tryd.prog.info? 57).map (·.size) = some 64 := by kernel_rfl
  rw [e]; simp [u32s, h]
theorem wpIn_load_row {F : Fence} {n : Nat} {P : Program} {o : Oper} {a : Act} {w : World} {K : Act → World → Prop} {Q : Exit → Act → World → Prop} (ty : TypeId) (x : Operand) (ho : o.op = .load ty x)
    (g : Nat) (hx : a.eval x = .pointer (some ⟨g, 0, none⟩)) (t : TypeId) (cs : Array Value) (fr : Nat × Nat) (d : TypeDesc) (hg : w.heap[g]? = some (.cells cs t fr))
    (hu : P.underlying ty = some d) (hd : (match d with | .struct _ | .array _ _ => true | _ => false) = true) (hi : (P.info? ty).map (·.size) = some cs.size)
    (h : K (a.put o.dst (.agg cs)) w) : o.wpIn F n P a w K Q := by
  unfold Oper.wpIn
  have hs : o.semAt F.round a.eval = execOp a.eval o := by
    unfold Oper.semAt
    cases F.round <;> simp [ho]
  rw [hs]
  unfold execOp
  simp only [ho, hx, Instr.loadAt, Instr.sureAddr, Sem.run_bind, Sem.run_pure, Result.andThen_ok, run_loadVar_row w g t ty cs fr d hg hu hd hi]
  exact ⟨fun f hf => by simp [Oper.about, ho] at hf, h⟩
theorem wpListIn_load_row {F : Fence} {n : Nat} {P : Program} {ops : Array Oper} {rest : List Oper} {o : Oper} {a : Act} {w : World} {Q : Exit → Act → World → Prop} (hgd : o.guard = none) (ty : TypeId) (x : Operand) (ho : o.op = .load ty x)
    (g : Nat) (hx : a.eval x = .pointer (some ⟨g, 0, none⟩)) (t : TypeId) (cs : Array Value) (fr : Nat × Nat) (d : TypeDesc) (hg : w.heap[g]? = some (.cells cs t fr))
    (hu : P.underlying ty = some d) (hd : (match d with | .struct _ | .array _ _ => true | _ => false) = true) (hi : (P.info? ty).map (·.size) = some cs.size)
    (h : wpListIn F n P ops Q rest (a.put o.dst (.agg cs)) w) : wpListIn F n P ops Q (o :: rest) a w :=
  wpListIn_plain hgd fun _ hK => wpIn_load_row ty x ho g hx t cs fr d hg hu hd hi (hK _ _ h)
def sfx (t : ByteArray) (k : Nat) : ByteArray := t.extract (64 * k) t.size
theorem sfx_size (t : ByteArray) (k : Nat) : (sfx t k).size = t.size - 64 * k := by simp [sfx]
theorem sfx_succ (t : ByteArray) (k : Nat) (h : 64 * (k + 1) ≤ t.size) : (sfx t k).extract 64 (sfx t k).size = sfx t (k + 1) := by
  rw [sfx_size]
  unfold sfx
  rw [ByteArray.extract_extract]
  congr 1 <;> omega
theorem sfx_zero (t : ByteArray) : sfx t 0 = t := by simp [sfx]
/-- The 64 words of what a text begins with. -/
def wordsOf (s : ByteArray) : List Int := schedW (packW s 64) 48
theorem wordsOf_len (s : ByteArray) : (wordsOf s).length = 64 := schedW_len _ (packW_len _ _) _
/-- Nothing that was there has turned, but for one block. -/
structure OnlyB (Bs : Nat) (A B : World) : Prop where
  os : B.os = A.os
  tape : B.tape = A.tape
  output : B.output = A.output
  size : A.heap.size ≤ B.heap.size
  block : ∀ b, b < A.heap.size → b ≠ Bs → B.heap[b]? = A.heap[b]?
theorem OnlyB.of_below {Bs : Nat} {A B : World} (h : Below A.heap.size A B) : OnlyB Bs A B := ⟨h.os, h.tape, h.output, h.size, fun b hb _ => h.block b hb⟩
theorem OnlyB.setCell {Bs : Nat} {A B : World} (h : OnlyB Bs A B) (j : Nat) (v : Value) : OnlyB Bs A (B.setCell ⟨Bs, j, none⟩ v) :=
  ⟨h.os, h.tape, h.output, by rw [size_setCell]; exact h.size, fun b hb hn => (Below.heap_setCell B ⟨Bs, j, none⟩ v b hn).trans (h.block b hb hn)⟩
set_option maxRecDepth 100000
set_option maxHeartbeats 6400000 in
theorem blocks_any (t : ByteArray) (l Bs m : Nat) (J : Nat → World → Prop) (W : World)
    (hins : ∀ k A B, J k A → OnlyB Bs A B → J k B)
    (hY : ∀ k W1, k < t.size / 64 → J k W1 → W1.heap[Bs]? = some (.cells #[.string (sfx t k)] 9 (0, 0)) → YieldAt Fence.wide m Tryd.prog l #[.agg (u32s (wordsOf (sfx t k)))] W1 fun e W' =>
      e = .returned (.bool true) ∧ J (k + 1) W' ∧ W'.heap[Bs]? = W1.heap[Bs]?)
    (hS : W.heap[Bs]? = some (.cells #[.string t] 9 (0, 0))) (hJ : J 0 W) :
    Calls Tryd.prog 36 #[.func (.yield l) #[] #[], .pointer (some ⟨Bs, 0, none⟩)] W fun e w' => e = .returned (.tuple #[]) ∧ J (t.size / 64) w' := by
  have HINS := Lib.hid hins
  have HY := Lib.hid hY
  have HS0 := Lib.hid hS
  have HJ0 := Lib.hid hJ
  clear hins hY hS hJ
  go_enter Tryd.func36, Tryd.ntmps36
  go_wp2
  go_loopg [8] (t.size / 64) (fun g u wr => ∃ k : Nat, g = t.size / 64 - k ∧ wr.heap[Bs]? = some (.cells #[.string (sfx t k)] 9 (0, 0)) ∧ 64 * k ≤ t.size ∧ J k wr)
  case atStart => exact ⟨0, rfl, by rw [sfx_zero]; exact HS0.out, by omega, HJ0.out⟩
  case round =>
    obtain ⟨k, rfl, hS, hk, hJ⟩ := hrel
    obtain ⟨s, hs⟩ : ∃ s, s = sfx t k := ⟨_, rfl⟩
    rw [← hs] at hS
    have hsz : s.size = t.size - 64 * k := by rw [hs]; exact sfx_size t k
    have cs : wr.cell? ⟨Bs, 0, none⟩ = some (.string s) := (cell_of_block hS 0).trans rfl
    have zs := free_of_block hS 0
    have hBs := lt_of_block' hS
    obtain ⟨wo, rfl⟩ : ∃ wo : World, wo = wr := ⟨_, rfl⟩
    have HS := Lib.hid hS
    have HSS := Lib.hid hs
    have HSZ := Lib.hid hsz
    have HJ := Lib.hid hJ
    clear hS hs hsz hJ
    by_cases hlt : 64 ≤ s.size
    · have hd : decide ((64 : Int) ≤ (s.size : Int)) = true := by simp; omega
      go_wp2
      generalize hW0 : (World.alloc _ _) = W0
      have hsz : W0.heap.size = wo.heap.size + 1 := by rw [← hW0]; simp
      have hB0 : Below wo.heap.size wo W0 := by rw [← hW0]; (repeat (first | exact Below.refl _ _ | assumption | refine Below.drew ?_ | refine below_drewN ?_ _ | refine Below.alloc ?_ (by first | omega | (simp; done) | (simp; omega) | (simp at *; omega)) _ | refine Below.setCell ?_ (by first | omega | (simp; done) | (simp; omega)) _ | refine Below.trans ?_ (Below.mono (by assumption) (by first | omega | (simp; done) | (simp; omega) | (simp at *; omega)))))
      have hX0 : W0.heap[wo.heap.size]? = some (.cells (u32s (packW s 0)) 57 (0, 0)) := by rw [← hW0]; exact block_new _ _ _ _ rfl
      have HW0 := Lib.hid hsz
      have HX0 := Lib.hid hX0
      clear hsz hX0 hW0
      go_loopg [13] 64 (fun g i wr => ∃ j : Nat, g = 64 - j ∧ j ≤ 64 ∧ i = .int .i64 j ∧ wr.heap[wo.heap.size]? = some (.cells (u32s (packW s j)) 57 (0, 0)) ∧ Below wo.heap.size wo wr ∧ wr.heap.size = wo.heap.size + 1)
      case atStart => exact ⟨0, rfl, by omega, rfl, HX0.out, hB0, HW0.out⟩
      case round =>
        obtain ⟨j, rfl, hj, rfl, hX, hB, hz⟩ := hrel
        by_cases hjl : j < 64
        · have hjs : j < s.size := by omega
          obtain ⟨v, hv⟩ : ∃ v, v = (packW s j).getD (j / 4) 0 := ⟨_, rfl⟩
          have e4 : ((j : Int) / 4).toNat = j / 4 := by omega
          have cx : wr.cell? ⟨wo.heap.size, j / 4, none⟩ = some (.int .u32 v) := by
            rw [hv]; exact (cell_of_block hX _).trans (u32s_at _ _ (by rw [packW_len]; omega))
          have zx : wr.frozen? ⟨wo.heap.size, j / 4, none⟩ = false := free_of_block hX _
          have cs' : wr.cell? ⟨Bs, 0, none⟩ = some (.string s) := (hB.cell (p := ⟨Bs, 0, none⟩) hBs).trans cs
          have HX := Lib.hid hX
          have HZ := Lib.hid hz
          have HV := Lib.hid hv
          clear hX hz hv e4 cs zs
          go_wp2
          go_region
          all_goals go_wp2
          go_roundg (64 - (j + 1))
          case measure => omega
          case rel =>
            refine ⟨j + 1, rfl, by omega, by go_num, ?_, ?_, ?_⟩
            · have e : packW s (j + 1) = (packW s j).set (j / 4) (bits BinOp.or IntKind.u32 (v * 256 % 4294967296) (byteAt s j % 4294967296)) := by rw [HV.out]; rfl
              rw [e, ← u32s_set, ← byteAt_eq s j hjs]
              exact setCell_block HX.out (j / 4) _
            · exact (hB.setCell (Nat.le_refl _) _).drew
            · exact (size_setCell _ _ _).trans HZ.out
        · obtain rfl : j = 64 := by omega
          obtain ⟨w16, hw16⟩ : ∃ x, x = packW s 64 := ⟨_, rfl⟩
          rw [← hw16] at hX
          have HX := Lib.hid hX
          have HZ := Lib.hid hz
          have HW := Lib.hid hw16
          clear hX hz hw16 HX0 HW0 hB0 cs zs
          rw [show ((64 : Nat) : Int) = 64 from rfl]
          go_wp2
          go_loopg [5] 48 (fun g i wq => ∃ j : Nat, g = 48 - j ∧ j ≤ 48 ∧ i = .int .i64 ((j : Int) + 16) ∧ wq.heap[wo.heap.size]? = some (.cells (u32s (schedW w16 j)) 57 (0, 0)) ∧ Below wo.heap.size wo wq ∧ wq.heap.size = wo.heap.size + 1)
          case atStart => exact ⟨0, rfl, by omega, by go_num, HX.out, hB, HZ.out⟩
          case round =>
            clear hB
            obtain ⟨j, rfl, hj, rfl, hX, hB, hz⟩ := hrel
            by_cases hjl : j < 48
            · obtain ⟨ws, hws⟩ : ∃ x, x = schedW w16 j := ⟨_, rfl⟩
              rw [← hws] at hX
              have hl : ws.length = 64 := by rw [hws]; exact schedW_len _ (by rw [HW.out]; exact packW_len _ _) _
              have hb : ∀ k, 0 ≤ ws.getD k 0 ∧ ws.getD k 0 < 4294967296 := by rw [hws, HW.out]; exact schedW_bd _ (packW_bd _ _) _
              obtain ⟨a, ha⟩ : ∃ a, a = ws.getD (j + 1) 0 := ⟨_, rfl⟩
              obtain ⟨b, hb'⟩ : ∃ a, a = ws.getD (j + 14) 0 := ⟨_, rfl⟩
              obtain ⟨c, hc⟩ : ∃ a, a = ws.getD j 0 := ⟨_, rfl⟩
              obtain ⟨d, hd⟩ : ∃ a, a = ws.getD (j + 9) 0 := ⟨_, rfl⟩
              obtain ⟨e, he⟩ : ∃ a, a = ws.getD (j + 16) 0 := ⟨_, rfl⟩
              have a01 := hb (j + 1)
              have b01 := hb (j + 14)
              rw [← ha] at a01
              rw [← hb'] at b01
              obtain ⟨a0, a1⟩ := a01
              obtain ⟨b0, b1⟩ := b01
              have ca : wr.cell? ⟨wo.heap.size, j + 1, none⟩ = some (.int .u32 a) := by rw [ha]; exact (cell_of_block hX _).trans (u32s_at _ _ (by omega))
              have cb : wr.cell? ⟨wo.heap.size, j + 14, none⟩ = some (.int .u32 b) := by rw [hb']; exact (cell_of_block hX _).trans (u32s_at _ _ (by omega))
              have cc : wr.cell? ⟨wo.heap.size, j, none⟩ = some (.int .u32 c) := by rw [hc]; exact (cell_of_block hX _).trans (u32s_at _ _ (by omega))
              have cd : wr.cell? ⟨wo.heap.size, j + 9, none⟩ = some (.int .u32 d) := by rw [hd]; exact (cell_of_block hX _).trans (u32s_at _ _ (by omega))
              have ce : wr.cell? ⟨wo.heap.size, j + 16, none⟩ = some (.int .u32 e) := by rw [he]; exact (cell_of_block hX _).trans (u32s_at _ _ (by omega))
              have ze := free_of_block hX (j + 16)
              have HX := Lib.hid hX
              have HZ := Lib.hid hz
              have HA := Lib.hid ha
              have HB := Lib.hid hb'
              have HC := Lib.hid hc
              have HD := Lib.hid hd
              have HE := Lib.hid he
              have HWS := Lib.hid hws
              have HL := Lib.hid hl
              clear hX hz ha hb' hc hd he hws hl hb
              go_wp2_with fail
              go_quiet (fail)
              go_wp2_with fail
              have q0 : IntKind.i64.wrap (j : Int) = j := IntWalk.i64_in _ (by omega)
              have q9 : IntKind.i64.wrap ((j : Int) + 9) = (j : Int) + 9 := IntWalk.i64_in _ (by omega)
              have q97 : IntKind.i64.wrap ((j : Int) + 16 - 7) = (j : Int) + 9 := by rw [show (j : Int) + 16 - 7 = (j : Int) + 9 by omega]; exact q9
              have r0 : (0 : Int) ≤ j := by omega
              have r1 : (j : Int) < 64 := by omega
              have r2 : (0 : Int) ≤ (j : Int) + 9 := by omega
              have r3 : (j : Int) + 9 < 64 := by omega
              have r4 : (0 : Int) ≤ (j : Int) + 16 := by omega
              have r5 : (j : Int) + 16 < 64 := by omega
              have s9 : ((j : Int) + 9).toNat = j + 9 := by omega
              have s16 : ((j : Int) + 16).toNat = j + 16 := by omega
              refine wp_region_still_tail 29 (by kernel_rfl) (by kernel_rfl) ?_
              simp only [List.take_succ_cons, List.take_zero, List.drop_succ_cons, List.drop_zero]
              change wpStill _ _ (wr.drewN (nq + 1)) _ _ _
              repeat (first | still_step | still_call (right_any _ _ _ (by omega) (by omega) (by omega) (by omega)))
              refine wpStill_nil ?_
              change wpList _ _ _ _ _ (wr.drewN (nq + 1))
              clear q0 q9 q97 r0 r1 r2 r3 r4 r5 s9 s16
              go_wp2
              go_roundg (48 - (j + 1))
              case measure => omega
              case rel =>
                have e : schedW w16 (j + 1) = ws.set (j + 16) ((c + d + bits BinOp.xor IntKind.u32 (bits BinOp.xor IntKind.u32 (rr a 7) (rr a 18)) (a / 8) + bits BinOp.xor IntKind.u32 (bits BinOp.xor IntKind.u32 (rr b 17) (rr b 19)) (b / 1024)) % 4294967296) := by
                  rw [HA.out, HB.out, HC.out, HD.out, HWS.out]; rfl
                refine ⟨j + 1, rfl, by omega, by go_num, ?_, ?_, ?_⟩
                · rw [e, ← u32s_set]
                  exact setCell_block (w := wr.drewN _) HX.out (j + 16) _
                · exact (below_drewN hB _).setCell (Nat.le_refl _) _
                · exact (size_setCell _ _ _).trans HZ.out
            · obtain rfl : j = 48 := by omega
              have HX := Lib.hid hX
              have HZ := Lib.hid hz
              clear hX hz
              go_upto_region 13 with (fail)
              have hBS : wr.heap[Bs]? = some (.cells #[.string (sfx t k)] 9 (0, 0)) := by rw [← HSS.out]; exact (hB.block _ hBs).trans HS.out
              have hJ : J k wr := HINS.out _ _ _ HJ.out (.of_below hB)
              have hkl : k < t.size / 64 := by have := HSZ.out; omega
              have hwd : schedW w16 48 = wordsOf (sfx t k) := by rw [HW.out, ← HSS.out]; rfl
              obtain ⟨fn, tmps, assign, body, hy, hR⟩ := HY.out k wr hkl hJ hBS
              rw [← hwd] at hy
              have HBS := Lib.hid hBS
              have HJ1 := Lib.hid hJ
              clear hBS hJ hwd
              refine (wpIn_wide (n := m + 1)).1 ?_
              gi_wp2_with (refine wpListIn_load_row rfl 57 (.tmp 3) rfl wo.heap.size rfl 57 _ (0, 0) _ HX.out Tryd.underlying57 rfl (info64 (schedW_len _ (by rw [HW.out]; exact packW_len _ _) _)) ?_)
              refine hR.mono ?_
              rintro e w2 ⟨rfl, hJ2, hB2⟩
              have hB3 : w2.heap[Bs]? = some (.cells #[.string s] 9 (0, 0)) := by rw [hB2, HBS.out, HSS.out]
              have cs2 : w2.cell? ⟨Bs, 0, none⟩ = some (.string s) := (cell_of_block hB3 0).trans rfl
              have zs2 := free_of_block hB3 0
              have HB3 := Lib.hid hB3
              have HJ2 := Lib.hid hJ2
              clear hy hR hB2 hB3 hJ2
              gi_wp2
              go_wp2
              go_roundg (t.size / 64 - (k + 1))
              case measure => omega
              case rel =>
                have hle : 64 * (k + 1) ≤ t.size := by have := HSZ.out; omega
                refine ⟨k + 1, rfl, ?_, hle, ?_⟩
                · rw [← sfx_succ t k hle, ← HSS.out]
                  exact setCell_block HB3.out 0 _
                · exact HINS.out _ _ _ HJ2.out (.setCell (.of_below (Below.refl _ _)) 0 _)
    · have hd : decide ((64 : Int) ≤ (s.size : Int)) = false := by simp; omega
      go_wp2
      go_end0
      have hk' : t.size / 64 = k := by have := HSZ.out; omega
      exact ⟨rfl, by rw [hk']; exact HJ.out⟩
end Go.Proofs.YtgjiicjbkmcecaaDoor
