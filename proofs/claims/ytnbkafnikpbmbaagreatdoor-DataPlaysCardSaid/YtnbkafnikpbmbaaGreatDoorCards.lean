/-
  DERIVED. GIVEN WITH THE SEED: THE CARDS: each row of YtnbkafnikpbmbaaGreatDoorRows.lean that lists a variable, with what it lists TIED to the program's text (the seventh form; the later family's looks); each row that meets fmt, with fmt's text TOLD by the authors' own Lean function (tested against real Go, not proved from fmt's source: count such statements apart). THE CARD IS WHAT COUNTS. Prove the row's statement (the work); the ties are given (YtnbkafnikpbmbaaGreatDoorTie.lean); close each card by the builder's one call (the guide's Derived/Test/ToyasCard.lean, 'card_holds'). Laid BY PROGRAM, IN A SANDBOX (cutbox-door.mjs). By AI agents, Wed Nov 11 2026. No macro, syntax, notation, axiom, sorry.
-/
import Derived.Test.YtnbkafnikpbmbaaGreatDoorRows
import GoSem.ClaimSeven
namespace Go.Proofs.YtnbkafnikpbmbaaGreatDoor
namespace Rows

/-- THE TIED CARD OF 'millpondlaw22.DataPlays'. -/
def dataPlaysCard : Claim7 := { stood := { row := dataPlaysRow, standIns := [], harness := (true, "61b66a3fa6d76e6fa1534b9d45b941f51a0ac2c0a096a783ebe7ec735b36b39f"), looks := false }, kinds := [], alts := [], laidByText := true, laidKinds := [.data], laidTests := true, laidLooks := .later }
def DataPlaysCardSaid : Prop := Claim7.holds Tryz.pinned (.plain (OpenSpec.ofChange dataPlaysSpec)) dataPlaysCard

/-- THE SECOND FORM's CARD OF 'millpondlaw22.DataPlays'. -/
def dataPlaysUptoCard : Claim7 := { stood := { row := dataPlaysUptoRow, standIns := [], harness := (true, "61b66a3fa6d76e6fa1534b9d45b941f51a0ac2c0a096a783ebe7ec735b36b39f"), looks := false }, kinds := [], alts := [], laidByText := true, laidKinds := [.data], laidTests := true, laidLooks := .later }
def DataPlaysUptoCardSaid : Prop := Claim7.holds Tryz.pinned (.plain (OpenSpec.upto dataPlaysSpec)) dataPlaysUptoCard
end Rows
end Go.Proofs.YtnbkafnikpbmbaaGreatDoor
