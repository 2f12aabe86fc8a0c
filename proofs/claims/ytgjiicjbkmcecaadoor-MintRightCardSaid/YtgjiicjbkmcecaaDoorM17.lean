import Derived.Test.YtgjiicjbkmcecaaDoorM16
import Derived.Lib.SplitLaws
import Derived.WalkMore
namespace Go.Proofs.YtgjiicjbkmcecaaDoor
open Go.RowKit
set_option maxRecDepth 100000
def MaxCell (w : World) : Prop := ∃ m, w.cell? ⟨0, 0, none⟩ = some (.int .i64 m) ∧ 0 < w.heap.size
theorem MaxCell.below {w w' : World} (h : MaxCell w) (hb : Below w.heap.size w w') : MaxCell w' := by
  obtain ⟨m, h1, h2⟩ := h
  exact ⟨m, (hb.cell (p := ⟨0, 0, none⟩) h2).trans h1, Nat.lt_of_lt_of_le h2 hb.size⟩
def onlyF (q : Int → Bool) (s : ByteArray) : Bool := decide (Lib.idxFunc (fun x => !q (x : Int)) true s < 0)
def emptyB (s : ByteArray) : Bool := s.data.toList.isEmpty
theorem emptyB_eq (s : ByteArray) : s.toList.isEmpty = emptyB s := by rw [ByteArray.toList_eq]; rfl
def nameF (s : ByteArray) : Bool := !emptyB s && (!Lib.contains ((⟨#[46]⟩ : ByteArray) ++ s ++ ⟨#[46]⟩).data.toList [46, 46] && onlyF nameB s)
set_option maxHeartbeats 1600000 in
theorem name_any (s : ByteArray) (w : World) (hs : s.size ≤ 1073741824) (hm : MaxCell w) :
    Calls Tryd.prog 46 #[.string s] w fun e w' => e = .returned (.bool (nameF s)) ∧ Below w.heap.size w w' := by
  obtain ⟨m, hc, _⟩ := hm
  obtain ⟨b, hb⟩ : ∃ b, b = Lib.contains ((⟨#[46]⟩ : ByteArray) ++ s ++ ⟨#[46]⟩).data.toList [46, 46] := ⟨_, rfl⟩
  have hcon := Tryd.strings_Contains ((⟨#[46]⟩ : ByteArray) ++ s ++ ⟨#[46]⟩) ⟨#[46, 46]⟩ m w (by rw [ByteArray.size_append, ByteArray.size_append]; show 1 + s.size + 1 < _; omega) hc
  have honl := only_any _ nameB tells_name s w
  obtain ⟨z, hz⟩ : ∃ z, z = emptyB s := ⟨_, rfl⟩
  have hF : nameF s = (!z && (!b && onlyF nameB s)) := by rw [hb, hz]; rfl
  rw [hF]
  rw [show (⟨#[46, 46]⟩ : ByteArray).data.toList = [46, 46] from rfl, ← hb] at hcon
  obtain ⟨o, ho⟩ : ∃ o, o = onlyF nameB s := ⟨_, rfl⟩
  rw [show decide (Lib.idxFunc (fun x => !nameB (x : Int)) true s < 0) = onlyF nameB s from rfl, ← ho] at honl
  rw [← ho]
  have d0 : s.toList.isEmpty = z := (emptyB_eq s).trans hz.symm
  have HCON := Lib.hid hcon
  have HONL := Lib.hid honl
  clear hcon honl hF hb ho hz hc
  cases z
  · go_enter Tryd.func46, Tryd.ntmps46
    cases b
    · go_wp2_with (first
        | (go_at_call 61; refine HCON.out.mono ?_; rintro e w1 ⟨rfl, rfl⟩)
        | (go_at_call 48; refine HONL.out.mono ?_; rintro e w1 ⟨rfl, hb1⟩))
      go_ret
      exact ⟨rfl, hb1⟩
    · go_wp2_with (first
        | (go_at_call 61; refine HCON.out.mono ?_; rintro e w1 ⟨rfl, rfl⟩)
        | (go_at_call 48; refine HONL.out.mono ?_; rintro e w1 ⟨rfl, hb1⟩))
      go_ret
      exact ⟨rfl, Below.refl _ _⟩
  · go_enter Tryd.func46, Tryd.ntmps46
    go_wp2_with fail
    go_ret
    exact ⟨rfl, Below.refl _ _⟩
/-- A label of a host. -/
def labelF (x : ByteArray) : Bool := !emptyB x && (decide (x.size ≤ 20) && (!(x.data.toList.getD 0 0 == 45) && (!(x.data.toList.getD (x.size - 1) 0 == 45) && onlyF hostB x)))
def hostF (s : ByteArray) : Bool := decide (2 ≤ Lib.countB s ⟨#[46]⟩ + 1) && (Lib.splitB ⟨#[46]⟩ 0 (Lib.countB s ⟨#[46]⟩) s).all labelF
theorem all_take_succ {α : Type} (L : List α) (j : Nat) (hj : j < L.length) (f : α → Bool) (d : α) : (L.take (j + 1)).all f = ((L.take j).all f && f (L.getD j d)) := by
  rw [List.take_add_one, List.getD_eq_getElem?_getD, List.getElem?_eq_getElem hj, List.all_append]
  simp
theorem all_take {α : Type} (L : List α) (j : Nat) (f : α → Bool) (h : L.all f = true) : (L.take j).all f = true := by
  rw [List.all_eq_true] at h ⊢
  exact fun x hx => h x (List.mem_of_mem_take hx)
theorem all_getD {α : Type} (L : List α) (j : Nat) (hj : j < L.length) (f : α → Bool) (d : α) (h : L.all f = true) : f (L.getD j d) = true := by
  rw [List.all_eq_true] at h
  rw [List.getD_eq_getElem?_getD, List.getElem?_eq_getElem hj]
  exact h _ (List.getElem_mem _)
theorem byte_ne (x : ByteArray) (i : Nat) (h : i < x.size) : (((x[i]'h).toNat : Int) != 45) = !(x.data.toList.getD i 0 == 45) := by
  have e : x[i]'h = x.data.toList.getD i 0 := by
    rw [List.getD_eq_getElem?_getD, List.getElem?_eq_getElem (by rw [Array.length_toList]; exact h)]
    rfl
  rw [e]
  generalize x.data.toList.getD i 0 = c
  by_cases hc : c = 45
  · subst hc; rfl
  · have h1 : (c == 45) = false := by simpa using hc
    have h2 : c.toNat ≠ 45 := fun h => hc (UInt8.toNat_inj.1 h)
    rw [h1]
    simp
    omega
set_option maxHeartbeats 12800000 in
theorem host_any (s : ByteArray) (w : World) (hs : s.size ≤ 1073741824) (hm : MaxCell w) :
    Calls Tryd.prog 47 #[.string s] w fun e w' => e = .returned (.bool (hostF s)) ∧ Below w.heap.size w w' := by
  obtain ⟨m, hc, _⟩ := hm
  have hspl := Tryd.strings_Split s ⟨#[46]⟩ m w (by omega) hc (by decide)
  obtain ⟨N, hN⟩ : ∃ N, N = Lib.countB s ⟨#[46]⟩ := ⟨_, rfl⟩
  obtain ⟨L, hL⟩ : ∃ L, L = Lib.splitB ⟨#[46]⟩ 0 (Lib.countB s ⟨#[46]⟩) s := ⟨_, rfl⟩
  have hF : hostF s = (decide (2 ≤ N + 1) && L.all labelF) := by rw [hN, hL]; rfl
  rw [← hN] at hL
  have hNs : N ≤ 1073741824 := by rw [hN]; exact Nat.le_trans (Lib.countB_le _ (by decide) _ s (Nat.le_refl _)) hs
  have hlen : L.length = N + 1 := by rw [hL]; exact Lib.splitB_all _ (by decide) 0 N s hN.symm
  have hd2 : decide (2 ≤ N + 1) = decide ((2 : Int) ≤ (N : Int) + 1) := by apply decide_eq_decide.2; omega
  rw [hF, hd2]
  clear hd2
  rw [← hN, ← hL] at hspl
  have hcl : ∀ (W : World), Below (w.heap.size + 1) (w.alloc (.cells (L.map Value.string).toArray 9)) W → ∀ j, j < N + 1 → W.cell? ⟨w.heap.size, j, none⟩ = some (.string (L.getD j ⟨#[]⟩)) := by
    intro W hW j hj
    rw [hW.cell (p := ⟨w.heap.size, j, none⟩) (Nat.lt_succ_self _)]
    refine (cell_of_block (block_new _ _ _ _ rfl) j).trans ?_
    simp [List.getD_eq_getElem?_getD, hlen, hj]
  have HCL := Lib.hid hcl
  have HSPL := Lib.hid hspl
  have HLEN := Lib.hid hlen
  clear hcl hspl hlen hF hL hN
  go_enter Tryd.func47, Tryd.ntmps47
  go_wp2_with fail
  go_step3
  go_wp2_with fail
  refine HSPL.out.mono ?_
  rintro e w1 ⟨rfl, rfl⟩
  go_wp2_with fail
  go_step3
  go_wp2_with fail
  obtain ⟨k0, hk0⟩ : ∃ k0, k0 = decide ((2 : Int) ≤ (N : Int) + 1) := ⟨_, rfl⟩
  rw [← hk0]
  generalize hW0 : (World.alloc _ _) = W0
  have HCL0 : ∀ (W : World), Below (w.heap.size + 1) W0 W → ∀ j, j < N + 1 → W.cell? ⟨w.heap.size, j, none⟩ = some (.string (L.getD j ⟨#[]⟩)) := by rw [← hW0]; exact HCL.out
  have hb0 : Below w.heap.size w W0 := by rw [← hW0]; (repeat (first | exact Below.refl _ _ | assumption | refine Below.drew ?_ | refine below_drewN ?_ _ | refine Below.alloc ?_ (by first | omega | (simp; done) | (simp; omega) | (simp at *; omega)) _ | refine Below.setCell ?_ (by first | omega | (simp; done) | (simp; omega)) _ | refine Below.trans ?_ (Below.mono (by assumption) (by first | omega | (simp; done) | (simp; omega) | (simp at *; omega)))))
  have hz0 : W0.heap.size = w.heap.size + 1 := by rw [← hW0]; simp
  have HCL1 := Lib.hid HCL0
  have HK := Lib.hid hk0
  have HZ0 := Lib.hid hz0
  clear HCL0 hW0 HCL HSPL hk0 hz0
  go_loopg [4, 14] (N + 1) (fun g u v wr => ∃ j : Nat, g = N + 1 - j ∧ j ≤ N + 1 ∧ u = .bool (k0 && (L.take j).all labelF) ∧ (j = 0 ∨ (k0 && (L.take j).all labelF) = true) ∧ v = .int .i64 j ∧ Below (w.heap.size + 1) W0 wr)
  case atStart => exact ⟨0, rfl, by omega, by simp, Or.inl rfl, rfl, Below.refl _ _⟩
  case round =>
    obtain ⟨j, rfl, hj, rfl, hor, rfl, hb⟩ := hrel
    obtain ⟨b, hbk⟩ : ∃ b, b = (k0 && (L.take j).all labelF) := ⟨_, rfl⟩
    rw [← hbk] at hor ⊢
    have HBK := Lib.hid hbk
    clear hbk
    by_cases hjl : j < N + 1
    · have hcell := HCL1.out wr hb j hjl
      obtain ⟨x, hx⟩ : ∃ x, x = L.getD j ⟨#[]⟩ := ⟨_, rfl⟩
      rw [← hx] at hcell
      have hcast : (j : Int) < (N : Int) + 1 := by omega
      have HX := Lib.hid hx
      clear hx
      have hjL : j < L.length := by rw [HLEN.out]; exact hjl
      have hnx : (k0 && (L.take (j + 1)).all labelF) = (b && labelF x) := by rw [HBK.out, HX.out, all_take_succ L j hjL labelF ⟨#[]⟩, Bool.and_assoc]
      have hall : (k0 && L.all labelF) = true → b = true ∧ labelF x = true := by
        intro h
        rw [Bool.and_eq_true] at h
        refine ⟨by rw [HBK.out, h.1, Bool.true_and]; exact all_take L j labelF h.2, ?_⟩
        rw [HX.out]; exact all_getD L j hjL labelF ⟨#[]⟩ h.2
      have hB := Lib.hid (hb0.trans (hb.mono (Nat.le_succ _)))
      have HNX := Lib.hid hnx
      have HALL := Lib.hid hall
      clear hnx hall
      cases b
      · have hfalse : (k0 && L.all labelF) = false := by
          cases h : (k0 && L.all labelF)
          · rfl
          · exact absurd (HALL.out h).1 (by decide)
        have HFALSE := Lib.hid hfalse
        clear hfalse
        go_wp2_with fail
        have hfalse := HFALSE.out
        try rw [Exit.noGoto_ret]
        go_ret
        exact ⟨by rw [← HK.out, hfalse]; rfl, hB.out⟩
      · obtain ⟨z, hz⟩ : ∃ z, z = emptyB x := ⟨_, rfl⟩
        have d0 : x.toList.isEmpty = z := (emptyB_eq x).trans hz.symm
        have HZ := Lib.hid hz
        clear hz
        cases z
        · have hpos : 0 < x.size := by
            rcases Nat.eq_zero_or_pos x.size with h | h
            · have : x.data.toList = [] := by rw [← List.length_eq_zero_iff]; exact h
              have e : emptyB x = true := by rw [emptyB, this]; rfl
              exact absurd (HZ.out.trans e) (by decide)
            · exact h
          by_cases h20 : x.size ≤ 20
          · have hd20 : decide ((x.size : Int) ≤ 20) = true := by simp; omega
            obtain ⟨c0, hc0⟩ : ∃ c, c = !(x.data.toList.getD 0 0 == 45) := ⟨_, rfl⟩
            obtain ⟨c1, hc1⟩ : ∃ c, c = !(x.data.toList.getD (x.size - 1) 0 == 45) := ⟨_, rfl⟩
            have h0e : (((x[0]'hpos).toNat : Int) != 45) = c0 := by rw [hc0]; exact byte_ne x 0 hpos
            have h1e : (((x[x.size - 1]'(Nat.sub_lt hpos Nat.one_pos)).toNat : Int) != 45) = c1 := by rw [hc1]; exact byte_ne x _ _
            have honl := only_any _ hostB tells_host x wr
            obtain ⟨o, ho⟩ : ∃ o, o = onlyF hostB x := ⟨_, rfl⟩
            rw [show decide (Lib.idxFunc (fun x => !hostB (x : Int)) true x < 0) = onlyF hostB x from rfl, ← ho] at honl
            have hlab : labelF x = (c0 && (c1 && o)) := by
              unfold labelF
              rw [← HZ.out, ← hc0, ← hc1, ← ho, decide_eq_true h20]
              rfl
            have HLAB := Lib.hid hlab
            have HONL := Lib.hid honl
            clear hc0 hc1 ho hlab honl
            cases c0
            · have hfalse : (k0 && L.all labelF) = false := by
                cases h : (k0 && L.all labelF)
                · rfl
                · have := (HALL.out h).2; rw [HLAB.out] at this; exact absurd this (by simp)
              have HFALSE := Lib.hid hfalse
              clear hfalse
              go_wp2_with fail
              have hfalse := HFALSE.out
              try rw [Exit.noGoto_ret]
              go_ret
              exact ⟨by rw [← HK.out, hfalse]; rfl, hB.out⟩
            · cases c1
              · have hfalse : (k0 && L.all labelF) = false := by
                  cases h : (k0 && L.all labelF)
                  · rfl
                  · have := (HALL.out h).2; rw [HLAB.out] at this; exact absurd this (by simp)
                have HFALSE := Lib.hid hfalse
                clear hfalse
                go_wp2_with fail
                have hfalse := HFALSE.out
                try rw [Exit.noGoto_ret]
                go_ret
                exact ⟨by rw [← HK.out, hfalse]; rfl, hB.out⟩
              · go_wp2_with fail
                refine HONL.out.mono ?_
                rintro e w3 ⟨rfl, hb3⟩
                have hb3' : Below (w.heap.size + 1) W0 w3 := hb.trans (hb3.mono (Nat.le_trans (Nat.le_of_eq HZ0.out.symm) hb.size))
                have hB := Lib.hid (hb0.trans (hb3'.mono (Nat.le_succ _)))
                cases o
                · have hfalse : (k0 && L.all labelF) = false := by
                    cases h : (k0 && L.all labelF)
                    · rfl
                    · have := (HALL.out h).2; rw [HLAB.out] at this; exact absurd this (by simp)
                  have HFALSE := Lib.hid hfalse
                  clear hfalse hb3
                  go_wp2_with fail
                  have hfalse := HFALSE.out
                  try rw [Exit.noGoto_ret]
                  go_ret
                  exact ⟨by rw [← HK.out, hfalse]; rfl, hB.out⟩
                · have hnx : (k0 && (L.take (j + 1)).all labelF) = true := by rw [HNX.out, HLAB.out]; rfl
                  have HNX2 := Lib.hid hnx
                  clear hnx hb3
                  go_wp2_with fail
                  go_roundg (N + 1 - (j + 1))
                  case measure => omega
                  case rel => exact ⟨j + 1, rfl, by omega, by rw [HNX2.out], Or.inr HNX2.out, by go_num, hb3'⟩
          · have hd20 : decide ((x.size : Int) ≤ 20) = false := by simp; omega
            have hfalse : (k0 && L.all labelF) = false := by
              cases h : (k0 && L.all labelF)
              · rfl
              · have := (HALL.out h).2; unfold labelF at this; rw [decide_eq_false h20] at this; simp at this
            have HFALSE := Lib.hid hfalse
            clear hfalse h20
            go_wp2_with fail
            have hfalse := HFALSE.out
            try rw [Exit.noGoto_ret]
            go_ret
            exact ⟨by rw [← HK.out, hfalse]; rfl, hB.out⟩
        · have hfalse : (k0 && L.all labelF) = false := by
            cases h : (k0 && L.all labelF)
            · rfl
            · have := (HALL.out h).2; unfold labelF at this; rw [← HZ.out] at this; exact absurd this (by simp)
          have HFALSE := Lib.hid hfalse
          clear hfalse
          go_wp2_with fail
          have hfalse := HFALSE.out
          try rw [Exit.noGoto_ret]
          go_ret
          exact ⟨by rw [← HK.out, hfalse]; rfl, hB.out⟩
    · obtain rfl : j = N + 1 := by omega
      have hfull : b = (k0 && L.all labelF) := by
        rw [HBK.out, List.take_of_length_le (by rw [HLEN.out]; exact Nat.le_refl _)]
      have hB := Lib.hid (hb0.trans (hb.mono (Nat.le_succ _)))
      have HFULL := Lib.hid hfull
      clear hfull
      have hc1 : (((N + 1 : Nat)) : Int) = (N : Int) + 1 := by omega
      rw [hc1]
      go_wp2_with fail
      try rw [Exit.noGoto_ret]
      go_ret
      exact ⟨by rw [← HK.out, ← HFULL.out]; rfl, hB.out⟩
def ByteArray.at (s : ByteArray) (i : Nat) : UInt8 := s.data.toList.getD i 0
/-- Which kind of address a text is. -/
def kindF (s : ByteArray) : Int :=
  if (Lib.cut s.data.toList [64]).2.2 && (decide (s.size ≤ 40) && (nameF ⟨(Lib.cut s.data.toList [64]).1.toArray⟩ && hostF ⟨(Lib.cut s.data.toList [64]).2.1.toArray⟩)) then 1
  else if decide (9 ≤ s.size) && (decide (s.size ≤ 16) && (s.data.toList.getD 0 0 == 43 && (!(s.data.toList.getD 1 0 == 48) && onlyF digitB (s.extract 1 s.size)))) then 2 else 0
theorem kind_ann : kindF ⟨#[97, 110, 110, 64, 98, 46, 111, 114, 103]⟩ = 1 := by decide +kernel
end Go.Proofs.YtgjiicjbkmcecaaDoor
