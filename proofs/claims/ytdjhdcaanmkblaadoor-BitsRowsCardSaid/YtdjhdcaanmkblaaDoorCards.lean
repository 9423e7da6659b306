/-
  DERIVED. GIVEN WITH THE SEED: THE CARDS: each row of YtdjhdcaanmkblaaDoorRows.lean that lists a variable, with what it lists TIED to the program's text (the seventh form; the later family's looks); each row that meets fmt, with fmt's text TOLD by the authors' own Lean function (tested against real Go, not proved from fmt's source: count such statements apart). THE CARD IS WHAT COUNTS. Prove the row's statement (the work); the ties are given (YtdjhdcaanmkblaaDoorTie.lean); close each card by the builder's one call (the guide's Derived/Test/ToyasCard.lean, 'card_holds'). Laid BY PROGRAM, IN A SANDBOX (cutbox-door.mjs). By AI agents, Wed Nov 11 2026. No macro, syntax, notation, axiom, sorry.
-/
import Derived.Test.YtdjhdcaanmkblaaDoorRows
import GoSem.ClaimSeven
namespace Go.Proofs.YtdjhdcaanmkblaaDoor
namespace Rows

/-- THE TIED CARD OF 'millpondlaw03.ArenaPlays'. -/
def arenaPlaysCard : Claim7 := { stood := { row := arenaPlaysRow, standIns := [], harness := (true, "a2fd02a4deef7c18493b55719b725fd5f48a6fe25814758e2429eeec409dc981"), looks := false }, kinds := [], alts := [], laidByText := true, laidKinds := [.data], laidTests := true, laidLooks := .later }
def ArenaPlaysCardSaid : Prop := Claim7.holds Tryd.pinned (.plain (OpenSpec.ofChange arenaPlaysSpec)) arenaPlaysCard

/-- THE TIED CARD OF 'millpondlaw04.ViewPlays'. -/
def viewPlaysCard : Claim7 := { stood := { row := viewPlaysRow, standIns := [], harness := (true, "a2fd02a4deef7c18493b55719b725fd5f48a6fe25814758e2429eeec409dc981"), looks := false }, kinds := [], alts := [], laidByText := true, laidKinds := [.data], laidTests := true, laidLooks := .later }
def ViewPlaysCardSaid : Prop := Claim7.holds Tryd.pinned (.plain (OpenSpec.ofChange viewPlaysSpec)) viewPlaysCard

/-- THE TIED CARD OF 'millpondlaw11.BinsPlay'. -/
def binsPlayCard : Claim7 := { stood := { row := binsPlayRow, standIns := [], harness := (true, "a2fd02a4deef7c18493b55719b725fd5f48a6fe25814758e2429eeec409dc981"), looks := false }, kinds := [], alts := [], laidByText := true, laidKinds := [.data], laidTests := true, laidLooks := .later }
def BinsPlayCardSaid : Prop := Claim7.holds Tryd.pinned (.plain (OpenSpec.ofChange binsPlaySpec)) binsPlayCard

/-- THE TIED CARD OF 'millpondlaw02.BitsRows'. -/
def bitsRowsCard : Claim7 := { stood := { row := bitsRowsRow, standIns := [], harness := (true, "a2fd02a4deef7c18493b55719b725fd5f48a6fe25814758e2429eeec409dc981"), looks := false }, kinds := [], alts := [], laidByText := true, laidKinds := [.data], laidTests := true, laidLooks := .later }
def BitsRowsCardSaid : Prop := Claim7.holds Tryd.pinned (.plain (OpenSpec.ofChange bitsRowsSpec)) bitsRowsCard

/-- THE SECOND FORM's CARD OF 'millpondlaw03.ArenaPlays'. -/
def arenaPlaysUptoCard : Claim7 := { stood := { row := arenaPlaysUptoRow, standIns := [], harness := (true, "a2fd02a4deef7c18493b55719b725fd5f48a6fe25814758e2429eeec409dc981"), looks := false }, kinds := [], alts := [], laidByText := true, laidKinds := [.data], laidTests := true, laidLooks := .later }
def ArenaPlaysUptoCardSaid : Prop := Claim7.holds Tryd.pinned (.plain (OpenSpec.upto arenaPlaysSpec)) arenaPlaysUptoCard

/-- THE SECOND FORM's CARD OF 'millpondlaw04.ViewPlays'. -/
def viewPlaysUptoCard : Claim7 := { stood := { row := viewPlaysUptoRow, standIns := [], harness := (true, "a2fd02a4deef7c18493b55719b725fd5f48a6fe25814758e2429eeec409dc981"), looks := false }, kinds := [], alts := [], laidByText := true, laidKinds := [.data], laidTests := true, laidLooks := .later }
def ViewPlaysUptoCardSaid : Prop := Claim7.holds Tryd.pinned (.plain (OpenSpec.upto viewPlaysSpec)) viewPlaysUptoCard

/-- THE SECOND FORM's CARD OF 'millpondlaw11.BinsPlay'. -/
def binsPlayUptoCard : Claim7 := { stood := { row := binsPlayUptoRow, standIns := [], harness := (true, "a2fd02a4deef7c18493b55719b725fd5f48a6fe25814758e2429eeec409dc981"), looks := false }, kinds := [], alts := [], laidByText := true, laidKinds := [.data], laidTests := true, laidLooks := .later }
def BinsPlayUptoCardSaid : Prop := Claim7.holds Tryd.pinned (.plain (OpenSpec.upto binsPlaySpec)) binsPlayUptoCard

/-- THE SECOND FORM's CARD OF 'millpondlaw02.BitsRows'. -/
def bitsRowsUptoCard : Claim7 := { stood := { row := bitsRowsUptoRow, standIns := [], harness := (true, "a2fd02a4deef7c18493b55719b725fd5f48a6fe25814758e2429eeec409dc981"), looks := false }, kinds := [], alts := [], laidByText := true, laidKinds := [.data], laidTests := true, laidLooks := .later }
def BitsRowsUptoCardSaid : Prop := Claim7.holds Tryd.pinned (.plain (OpenSpec.upto bitsRowsSpec)) bitsRowsUptoCard
end Rows
end Go.Proofs.YtdjhdcaanmkblaaDoor
