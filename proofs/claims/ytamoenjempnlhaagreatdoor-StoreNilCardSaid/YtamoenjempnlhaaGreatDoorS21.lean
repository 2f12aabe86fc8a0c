import Derived.Test.YtamoenjempnlhaaGreatDoorS20
namespace Go.Proofs.YtamoenjempnlhaaGreatDoor
open Go.RowKit
set_option maxRecDepth 100000
set_option maxHeartbeats 3200000 in
theorem steps_wipe (N d s t n q a z : Nat) (b : Nat) (wt : Value) (w0 w : World) (h : DiskAt N d s t n wt 0 [] w0 w) (hc : Caps q d a (.int .i64 b) 3 w) (hab : a < b) (hb : b ≤ n) (hba : b < a + 64) (hn0 : 0 < n) (hn : n ≤ 131072)
    (hz : w.heap[z]? = some (.cells #[.func (.func 45) #[] #[.pointer (some ⟨q, 0, none⟩), .pointer (some ⟨q + 1, 0, none⟩), .pointer (some ⟨q + 2, 0, none⟩)], .func (.func 48) #[.pointer (some ⟨d, 0, none⟩)] #[]] 91 (0, 0))) :
    Calls Tryz.prog 26 #[.slice (some ⟨z, 0, none⟩) 2 2] w fun e w' => e = .returned (.int .i64 0) ∧ (∃ wt', DiskAt N d s t n wt' 0 [] w0 w') ∧ KeptD w w' := by
  have h1 := wipe11_any N d s t n q a b wt w0 w h hc hab hb hba hn
  have H1 := Lib.hid h1
  have HZ := Lib.hid hz
  clear h1 hz h hc
  go_enter Tryz.func26, Tryz.ntmps26
  go_wp2_with fail
  go_loopg [8] 2 (fun g v wr => (g = 2 ∧ v = .int .i64 0 ∧ wr = w) ∨ (g = 1 ∧ v = .int .i64 1 ∧ (∃ wt' xs', DiskAt N d s t n wt' 1 xs' w0 wr) ∧ KeptD w wr) ∨ (g = 0 ∧ v = .int .i64 2 ∧ (∃ wt', DiskAt N d s t n wt' 0 [] w0 wr) ∧ KeptD w wr))
  case atStart => exact Or.inl ⟨rfl, rfl, rfl⟩
  case round =>
    rcases hrel with ⟨rfl, rfl, rfl⟩ | ⟨rfl, rfl, ⟨wt', xs', hd⟩, hk⟩ | ⟨rfl, rfl, hd, hk⟩
    · have c0 : wr.cell? ⟨z, 0, none⟩ = some (.func (.func 45) #[] #[.pointer (some ⟨q, 0, none⟩), .pointer (some ⟨q + 1, 0, none⟩), .pointer (some ⟨q + 2, 0, none⟩)]) := (cell_of_block HZ.out 0).trans rfl
      go_wp2_with (first
        | (go_at_call 45; refine H1.out.mono ?_; rintro e w1 ⟨rfl, hd1, hk1⟩)
        | fail)
      go_roundg 1
      case measure => omega
      case rel => exact Or.inr (Or.inl ⟨rfl, rfl, hd1, hk1⟩)
    · have hz1 := (hk _ _ _ HZ.out (by decide) (by decide) (by decide)).trans HZ.out
      have c1 : wr.cell? ⟨z, 1, none⟩ = some (.func (.func 48) #[.pointer (some ⟨d, 0, none⟩)] #[]) := (cell_of_block hz1 1).trans rfl
      have hsy := sync_any N d s t n wt' xs' w0 wr hd hn0 hn
      have HSY := Lib.hid hsy
      have HKK := Lib.hid hk
      clear hz1 hsy hd hk
      go_wp2_with (first
        | (go_at_call 48; refine HSY.out.mono ?_; rintro e w1 ⟨rfl, hd1, hk1⟩)
        | fail)
      go_roundg 0
      case measure => omega
      case rel => exact Or.inr (Or.inr ⟨rfl, rfl, hd1, HKK.out.trans hk1⟩)
    · have HKK := Lib.hid hk
      have HDD := Lib.hid hd
      clear hk hd
      go_wp2
      try rw [Exit.noGoto_ret]
      go_ret
      exact ⟨rfl, HDD.out, HKK.out⟩
set_option maxHeartbeats 3200000 in
theorem steps_put (N d s t n q a z : Nat) (x : ByteArray) (wt : Value) (w0 w : World) (h : DiskAt N d s t n wt 0 [] w0 w) (hc : Caps q d a (.string x) 9 w) (hx : x.size = 10) (hb : a + 18 ≤ n) (hn0 : 0 < n) (hn : n ≤ 131072)
    (hz : w.heap[z]? = some (.cells #[.func (.func 117) #[] #[.pointer (some ⟨q, 0, none⟩), .pointer (some ⟨q + 1, 0, none⟩), .pointer (some ⟨q + 2, 0, none⟩)], .func (.func 48) #[.pointer (some ⟨d, 0, none⟩)] #[]] 91 (0, 0))) :
    Calls Tryz.prog 26 #[.slice (some ⟨z, 0, none⟩) 2 2] w fun e w' => e = .returned (.int .i64 0) ∧ (∃ wt', DiskAt N d s t n wt' 0 [] w0 w') ∧ KeptD w w' := by
  have h1 := put11_any N d s t n q a x wt w0 w h hc hx hb hn
  have H1 := Lib.hid h1
  have HZ := Lib.hid hz
  clear h1 hz h hc
  go_enter Tryz.func26, Tryz.ntmps26
  go_wp2_with fail
  go_loopg [8] 2 (fun g v wr => (g = 2 ∧ v = .int .i64 0 ∧ wr = w) ∨ (g = 1 ∧ v = .int .i64 1 ∧ (∃ wt' xs', DiskAt N d s t n wt' 1 xs' w0 wr) ∧ KeptD w wr) ∨ (g = 0 ∧ v = .int .i64 2 ∧ (∃ wt', DiskAt N d s t n wt' 0 [] w0 wr) ∧ KeptD w wr))
  case atStart => exact Or.inl ⟨rfl, rfl, rfl⟩
  case round =>
    rcases hrel with ⟨rfl, rfl, rfl⟩ | ⟨rfl, rfl, ⟨wt', xs', hd⟩, hk⟩ | ⟨rfl, rfl, hd, hk⟩
    · have c0 : wr.cell? ⟨z, 0, none⟩ = some (.func (.func 117) #[] #[.pointer (some ⟨q, 0, none⟩), .pointer (some ⟨q + 1, 0, none⟩), .pointer (some ⟨q + 2, 0, none⟩)]) := (cell_of_block HZ.out 0).trans rfl
      go_wp2_with (first
        | (go_at_call 117; refine H1.out.mono ?_; rintro e w1 ⟨rfl, hd1, hk1⟩)
        | fail)
      go_roundg 1
      case measure => omega
      case rel => exact Or.inr (Or.inl ⟨rfl, rfl, hd1, hk1⟩)
    · have hz1 := (hk _ _ _ HZ.out (by decide) (by decide) (by decide)).trans HZ.out
      have c1 : wr.cell? ⟨z, 1, none⟩ = some (.func (.func 48) #[.pointer (some ⟨d, 0, none⟩)] #[]) := (cell_of_block hz1 1).trans rfl
      have hsy := sync_any N d s t n wt' xs' w0 wr hd hn0 hn
      have HSY := Lib.hid hsy
      have HKK := Lib.hid hk
      clear hz1 hsy hd hk
      go_wp2_with (first
        | (go_at_call 48; refine HSY.out.mono ?_; rintro e w1 ⟨rfl, hd1, hk1⟩)
        | fail)
      go_roundg 0
      case measure => omega
      case rel => exact Or.inr (Or.inr ⟨rfl, rfl, hd1, HKK.out.trans hk1⟩)
    · have HKK := Lib.hid hk
      have HDD := Lib.hid hd
      clear hk hd
      go_wp2
      try rw [Exit.noGoto_ret]
      go_ret
      exact ⟨rfl, HDD.out, HKK.out⟩
end Go.Proofs.YtamoenjempnlhaaGreatDoor
