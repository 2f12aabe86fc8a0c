import Derived.Test.YtamoenjempnlhaaGreatDoorS22
namespace Go.Proofs.YtamoenjempnlhaaGreatDoor
open Go.RowKit
set_option maxRecDepth 100000
theorem DiskZ.at {N d s t n : Nat} {w W : World} (h : DiskZ N d s t n W) (hb : Below N w W) : DiskAt N d s t n (.slice none 0 0) 0 [] w W :=
  ⟨h.blk, ⟨_, h.sz, size_madeCells _ _, fun j hj => ⟨0, made_at n j hj⟩⟩, ⟨_, h.tz, size_madeCells _ _, fun j hj => ⟨0, made_at n j hj⟩⟩, World.ownsRow_nil _ _ _ _, h.ne, h.hd, h.hs, h.ht, hb⟩
set_option maxHeartbeats 6400000 in
theorem steps3_any (N d s t q1 q2 q3 z : Nat) (x : ByteArray) (wt : Value) (w0 w : World) (h : DiskAt N d s t 100 wt 0 [] w0 w) (hx : x.size = 10)
    (hc1 : Caps q1 d 0 (.int .i64 ((50 : Nat) : Int)) 3 w) (hc2 : Caps q2 d 0 (.string x) 9 w) (hc3 : Caps q3 d 50 (.int .i64 ((100 : Nat) : Int)) 3 w)
    (hz : w.heap[z]? = some (.cells #[.func (.func 44) #[] #[.pointer (some ⟨q1, 0, none⟩), .pointer (some ⟨q1 + 1, 0, none⟩), .pointer (some ⟨q1 + 2, 0, none⟩)], .func (.func 116) #[] #[.pointer (some ⟨q2, 0, none⟩), .pointer (some ⟨q2 + 1, 0, none⟩), .pointer (some ⟨q2 + 2, 0, none⟩)], .func (.func 44) #[] #[.pointer (some ⟨q3, 0, none⟩), .pointer (some ⟨q3 + 1, 0, none⟩), .pointer (some ⟨q3 + 2, 0, none⟩)]] 91 (0, 0))) :
    Calls Tryz.prog 26 #[.slice (some ⟨z, 0, none⟩) 3 3] w fun e w' => e = .returned (.int .i64 0) ∧ (∃ wt', DiskAt N d s t 100 wt' 0 [] w0 w') ∧ KeptD w w' := by
  have h1 := fun wt W (hd : DiskAt N d s t 100 wt 0 [] w0 W) (hk : KeptD w W) => wipe1_any N d s t 100 q1 0 50 wt w0 W hd (hc1.kept hk (by decide) (by decide) (by decide)) (by decide) (by decide) (by decide) (by decide) (by decide)
  have h2 := fun wt W (hd : DiskAt N d s t 100 wt 0 [] w0 W) (hk : KeptD w W) => put1_any N d s t 100 q2 0 x wt w0 W hd (hc2.kept hk (by decide) (by decide) (by decide)) hx (by decide) (by decide) (by decide)
  have h3 := fun wt W (hd : DiskAt N d s t 100 wt 0 [] w0 W) (hk : KeptD w W) => wipe1_any N d s t 100 q3 50 100 wt w0 W hd (hc3.kept hk (by decide) (by decide) (by decide)) (by decide) (by decide) (by decide) (by decide) (by decide)
  have H1 := Lib.hid h1
  have H2 := Lib.hid h2
  have H3 := Lib.hid h3
  have HZ := Lib.hid hz
  have HD := Lib.hid h
  clear h1 h2 h3 hz h hc1 hc2 hc3
  go_enter Tryz.func26, Tryz.ntmps26
  go_wp2_with fail
  go_loopg [8] 3 (fun g v wr => ∃ j : Nat, g = 3 - j ∧ j ≤ 3 ∧ v = .int .i64 j ∧ (∃ wt', DiskAt N d s t 100 wt' 0 [] w0 wr) ∧ KeptD w wr)
  case atStart => exact ⟨0, rfl, by omega, rfl, ⟨_, HD.out⟩, KeptD.refl _⟩
  case round =>
    obtain ⟨j, rfl, hj, rfl, ⟨wt', hd⟩, hk⟩ := hrel
    have hz1 := (hk _ _ _ HZ.out (by decide) (by decide) (by decide)).trans HZ.out
    have c0 : wr.cell? ⟨z, 0, none⟩ = some (.func (.func 44) #[] #[.pointer (some ⟨q1, 0, none⟩), .pointer (some ⟨q1 + 1, 0, none⟩), .pointer (some ⟨q1 + 2, 0, none⟩)]) := (cell_of_block hz1 0).trans rfl
    have c1 : wr.cell? ⟨z, 1, none⟩ = some (.func (.func 116) #[] #[.pointer (some ⟨q2, 0, none⟩), .pointer (some ⟨q2 + 1, 0, none⟩), .pointer (some ⟨q2 + 2, 0, none⟩)]) := (cell_of_block hz1 1).trans rfl
    have c2 : wr.cell? ⟨z, 2, none⟩ = some (.func (.func 44) #[] #[.pointer (some ⟨q3, 0, none⟩), .pointer (some ⟨q3 + 1, 0, none⟩), .pointer (some ⟨q3 + 2, 0, none⟩)]) := (cell_of_block hz1 2).trans rfl
    have g1 := H1.out wt' wr hd hk
    have g2 := H2.out wt' wr hd hk
    have g3 := H3.out wt' wr hd hk
    have G1 := Lib.hid g1
    have G2 := Lib.hid g2
    have G3 := Lib.hid g3
    have HKK := Lib.hid hk
    have HDD := Lib.hid hd
    clear hz1 g1 g2 g3 hk hd
    have hcase : j = 0 ∨ j = 1 ∨ j = 2 ∨ j = 3 := by omega
    rcases hcase with rfl | rfl | rfl | rfl
    · rw [show ((0 : Nat) : Int) = 0 from rfl]
      go_wp2_with (first
        | (go_at_call 44; refine G1.out.mono ?_; rintro e w1 ⟨rfl, hd1, hk1⟩)
        | fail)
      go_roundg (3 - (0 + 1))
      case measure => omega
      case rel => exact ⟨0 + 1, rfl, by omega, rfl, hd1, HKK.out.trans hk1⟩
    · rw [show ((1 : Nat) : Int) = 1 from rfl]
      go_wp2_with (first
        | (go_at_call 116; refine G2.out.mono ?_; rintro e w1 ⟨rfl, hd1, hk1⟩)
        | fail)
      go_roundg (3 - (1 + 1))
      case measure => omega
      case rel => exact ⟨1 + 1, rfl, by omega, rfl, hd1, HKK.out.trans hk1⟩
    · rw [show ((2 : Nat) : Int) = 2 from rfl]
      go_wp2_with (first
        | (go_at_call 44; refine G3.out.mono ?_; rintro e w1 ⟨rfl, hd1, hk1⟩)
        | fail)
      go_roundg (3 - (2 + 1))
      case measure => omega
      case rel => exact ⟨2 + 1, rfl, by omega, rfl, hd1, HKK.out.trans hk1⟩
    · rw [show ((3 : Nat) : Int) = 3 from rfl]
      go_wp2
      try rw [Exit.noGoto_ret]
      go_ret
      exact ⟨rfl, ⟨_, HDD.out⟩, HKK.out⟩
end Go.Proofs.YtamoenjempnlhaaGreatDoor
