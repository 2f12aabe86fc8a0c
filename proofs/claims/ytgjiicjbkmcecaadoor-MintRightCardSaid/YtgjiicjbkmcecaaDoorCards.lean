/-
  DERIVED. GIVEN WITH THE SEED: THE CARDS: each row of YtgjiicjbkmcecaaDoorRows.lean that lists a variable, with what it lists TIED to the program's text (the seventh form; the later family's looks); each row that meets fmt, with fmt's text TOLD by the authors' own Lean function (tested against real Go, not proved from fmt's source: count such statements apart). THE CARD IS WHAT COUNTS. Prove the row's statement (the work); the ties are given (YtgjiicjbkmcecaaDoorTie.lean); close each card by the builder's one call (the guide's Derived/Test/ToyasCard.lean, 'card_holds'). Laid BY PROGRAM, IN A SANDBOX (cutbox-door.mjs). By AI agents, Wed Nov 11 2026. No macro, syntax, notation, axiom, sorry.
-/
import Derived.Test.YtgjiicjbkmcecaaDoorRows
import GoSem.ClaimSeven
namespace Go.Proofs.YtgjiicjbkmcecaaDoor
namespace Rows

/-- THE TIED CARD OF 'homecominglaw10.MintRight'. -/
def mintRightCard : Claim7 := { stood := { row := mintRightRow, standIns := [], harness := (true, "120d955bb5933b47299d8c1739b026f1aabe53ae6d39cbb8ab2c54b4eae522d0"), looks := false }, kinds := [], alts := [], laidByText := true, laidKinds := [.data, .data, .data, .data, .pinned], laidTests := true, laidLooks := .later }
def MintRightCardSaid : Prop := Claim7.holds Tryd.pinned (.plain (OpenSpec.ofChange mintRightSpec)) mintRightCard

/-- THE SECOND FORM's CARD OF 'homecominglaw10.MintRight'. -/
def mintRightUptoCard : Claim7 := { stood := { row := mintRightUptoRow, standIns := [], harness := (true, "120d955bb5933b47299d8c1739b026f1aabe53ae6d39cbb8ab2c54b4eae522d0"), looks := false }, kinds := [], alts := [], laidByText := true, laidKinds := [.data, .data, .data, .data, .pinned], laidTests := true, laidLooks := .later }
def MintRightUptoCardSaid : Prop := Claim7.holds Tryd.pinned (.plain (OpenSpec.upto mintRightSpec)) mintRightUptoCard
end Rows
end Go.Proofs.YtgjiicjbkmcecaaDoor
