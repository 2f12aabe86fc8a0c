import Derived.Test.YtgjiicjbkmcecaaDoorM17
namespace Go.Proofs.YtgjiicjbkmcecaaDoor
open Go.RowKit
set_option maxRecDepth 100000
/-- What a world must hold for all that reads the laid tables. -/
structure Base (w : World) : Prop where
  tab : PowTab w
  max : MaxCell w
theorem PowTab.below {w w' : World} (h : PowTab w) (hb : Below w.heap.size w w') : PowTab w' := by
  unfold PowTab Lib.TabIs World.var? at *
  cases hg : Tryd.prog.globalNamed "internal/strconv.uint64pow10" with
  | none => simp [hg] at h
  | some g =>
    simp only [hg, Option.bind_some] at h ⊢
    have hlt : g < w.heap.size := by
      rcases Nat.lt_or_ge g w.heap.size with h' | h'
      · exact h'
      · rw [Array.getElem?_eq_none h'] at h; simp at h
    rw [hb.block g hlt]
    exact h
theorem Base.below {w w' : World} (h : Base w) (hb : Below w.heap.size w w') : Base w' := ⟨h.tab.below hb, h.max.below hb⟩
set_option maxHeartbeats 1600000 in
theorem kind_mail (s : ByteArray) (w : World) (hs : s.size ≤ 40) (hm : MaxCell w) (h1 : (Lib.cut s.data.toList [64]).2.2 = true)
    (h2 : nameF ⟨(Lib.cut s.data.toList [64]).1.toArray⟩ = true) (h3 : hostF ⟨(Lib.cut s.data.toList [64]).2.1.toArray⟩ = true) (h4 : (Lib.cut s.data.toList [64]).1.length ≤ 100) (h5 : (Lib.cut s.data.toList [64]).2.1.length ≤ 100) :
    Calls Tryd.prog 32 #[.string s] w fun e w' => e = .returned (.int .i64 1) ∧ Below w.heap.size w w' := by
  have hM := hm
  obtain ⟨m, hc, _⟩ := hm
  have hcut := Tryd.strings_Cut s ⟨#[64]⟩ m w (by omega) hc
  rw [show (⟨#[64]⟩ : ByteArray).data.toList = [64] from rfl, h1] at hcut
  obtain ⟨A, hA⟩ : ∃ A : ByteArray, A = ⟨(Lib.cut s.data.toList [64]).1.toArray⟩ := ⟨_, rfl⟩
  obtain ⟨B, hB⟩ : ∃ B : ByteArray, B = ⟨(Lib.cut s.data.toList [64]).2.1.toArray⟩ := ⟨_, rfl⟩
  have hAs : A.size ≤ 1073741824 := by rw [hA]; show (Lib.cut s.data.toList [64]).1.toArray.size ≤ _; rw [List.size_toArray]; omega
  have hBs : B.size ≤ 1073741824 := by rw [hB]; show (Lib.cut s.data.toList [64]).2.1.toArray.size ≤ _; rw [List.size_toArray]; omega
  rw [← hA] at h2
  rw [← hB] at h3
  rw [← hA, ← hB] at hcut
  have hname := fun w1 (hb : Below w.heap.size w w1) => name_any A w1 hAs (hM.below hb)
  have hhost := fun w1 (hb : Below w.heap.size w w1) => host_any B w1 hBs (hM.below hb)
  rw [h2] at hname
  rw [h3] at hhost
  have HN := Lib.hid hname
  have HH := Lib.hid hhost
  have HC := Lib.hid hcut
  have hd : decide ((s.size : Int) ≤ 40) = true := by simp; omega
  clear hname hhost hcut h1 h2 h3 h4 h5 hA hB hM hc hAs hBs
  go_enter Tryd.func32, Tryd.ntmps32
  go_wp2_with fail
  refine HC.out.mono ?_
  rintro e w1 ⟨rfl, q, rfl⟩
  have hb1 : Below w.heap.size w (w.drewN q) := below_drewNg w q
  generalize w.drewN q = w1 at hb1 ⊢
  go_wp2_with (first
    | (go_at_call 46; refine (HN.out _ hb1).mono ?_; rintro e w2 ⟨rfl, hb2⟩)
    | (go_at_call 47; refine (HH.out _ (hb1.trans (hb2.mono hb1.size))).mono ?_; rintro e w3 ⟨rfl, hb3⟩)
    | fail)
  go_ret
  exact ⟨rfl, hb1.trans ((hb2.mono hb1.size).trans (hb3.mono (Nat.le_trans hb1.size hb2.size)))⟩
def annS : ByteArray := ⟨#[97, 110, 110, 64, 98, 46, 111, 114, 103]⟩
theorem kind_annS (w : World) (hm : MaxCell w) : Calls Tryd.prog 32 #[.string ⟨#[97, 110, 110, 64, 98, 46, 111, 114, 103]⟩] w fun e w' => e = .returned (.int .i64 1) ∧ Below w.heap.size w w' :=
  kind_mail annS w (by decide) hm (by decide +kernel) (by decide +kernel) (by decide +kernel) (by decide +kernel) (by decide +kernel)
end Go.Proofs.YtgjiicjbkmcecaaDoor
