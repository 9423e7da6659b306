/-
  DERIVED. GIVEN WITH THE SEED: THE CARDS: each row of YtlnecfdbmoilbaaDoorRows.lean that lists a variable, with what it lists TIED to the program's text (the seventh form; the later family's looks); each row that meets fmt, with fmt's text TOLD by the authors' own Lean function (tested against real Go, not proved from fmt's source: count such statements apart). THE CARD IS WHAT COUNTS. Prove the row's statement (the work); the ties are given (YtlnecfdbmoilbaaDoorTie.lean); close each card by the builder's one call (the guide's Derived/Test/ToyasCard.lean, 'card_holds'). Laid BY PROGRAM, IN A SANDBOX (cutbox-door.mjs). By AI agents, Wed Nov 11 2026. No macro, syntax, notation, axiom, sorry.
-/
import Derived.Test.YtlnecfdbmoilbaaDoorRows
import GoSem.ClaimSeven
namespace Go.Proofs.YtlnecfdbmoilbaaDoor
namespace Rows

/-- THE TIED CARD OF 'millpondlaw03.ArenaCopies'. -/
def arenaCopiesCard : Claim7 := { stood := { row := arenaCopiesRow, standIns := [], harness := (true, "d3023235d0d04dbed9717cbba2b856a086632fe3af8c23ae69c4e255193cda85"), looks := false }, kinds := [], alts := [], laidByText := true, laidKinds := [.data], laidTests := true, laidLooks := .later }
def ArenaCopiesCardSaid : Prop := Claim7.holds Tryd.pinned (.plain (OpenSpec.ofChange arenaCopiesSpec)) arenaCopiesCard

/-- THE TIED CARD OF 'millpondlaw03.ArenaGreat'. -/
def arenaGreatCard : Claim7 := { stood := { row := arenaGreatRow, standIns := [], harness := (true, "d3023235d0d04dbed9717cbba2b856a086632fe3af8c23ae69c4e255193cda85"), looks := false }, kinds := [], alts := [], laidByText := true, laidKinds := [.data], laidTests := true, laidLooks := .later }
def ArenaGreatCardSaid : Prop := Claim7.holds Tryd.pinned (.plain (OpenSpec.ofChange arenaGreatSpec)) arenaGreatCard

/-- THE TIED CARD OF 'millpondlaw03.ArenaKeeps'. -/
def arenaKeepsCard : Claim7 := { stood := { row := arenaKeepsRow, standIns := [], harness := (true, "d3023235d0d04dbed9717cbba2b856a086632fe3af8c23ae69c4e255193cda85"), looks := false }, kinds := [], alts := [], laidByText := true, laidKinds := [.data], laidTests := true, laidLooks := .later }
def ArenaKeepsCardSaid : Prop := Claim7.holds Tryd.pinned (.plain (OpenSpec.ofChange arenaKeepsSpec)) arenaKeepsCard

/-- THE TIED CARD OF 'millpondlaw03.ArenaPlays'. -/
def arenaPlaysCard : Claim7 := { stood := { row := arenaPlaysRow, standIns := [], harness := (true, "d3023235d0d04dbed9717cbba2b856a086632fe3af8c23ae69c4e255193cda85"), looks := false }, kinds := [], alts := [], laidByText := true, laidKinds := [.data], laidTests := true, laidLooks := .later }
def ArenaPlaysCardSaid : Prop := Claim7.holds Tryd.pinned (.plain (OpenSpec.ofChange arenaPlaysSpec)) arenaPlaysCard

/-- THE TIED CARD OF 'millpondlaw03.ArenaNil'. -/
def arenaNilCard : Claim7 := { stood := { row := arenaNilRow, standIns := [], harness := (true, "d3023235d0d04dbed9717cbba2b856a086632fe3af8c23ae69c4e255193cda85"), looks := false }, kinds := [], alts := [], laidByText := true, laidKinds := [.data], laidTests := true, laidLooks := .later }
def ArenaNilCardSaid : Prop := Claim7.holds Tryd.pinned (.plain (OpenSpec.ofChange arenaNilSpec)) arenaNilCard

/-- THE TIED CARD OF 'millpondlaw04.ViewTexts'. -/
def viewTextsCard : Claim7 := { stood := { row := viewTextsRow, standIns := [], harness := (true, "d3023235d0d04dbed9717cbba2b856a086632fe3af8c23ae69c4e255193cda85"), looks := false }, kinds := [], alts := [], laidByText := true, laidKinds := [.data], laidTests := true, laidLooks := .later }
def ViewTextsCardSaid : Prop := Claim7.holds Tryd.pinned (.plain (OpenSpec.ofChange viewTextsSpec)) viewTextsCard

/-- THE TIED CARD OF 'millpondlaw04.ViewNone'. -/
def viewNoneCard : Claim7 := { stood := { row := viewNoneRow, standIns := [], harness := (true, "d3023235d0d04dbed9717cbba2b856a086632fe3af8c23ae69c4e255193cda85"), looks := false }, kinds := [], alts := [], laidByText := true, laidKinds := [.data], laidTests := true, laidLooks := .later }
def ViewNoneCardSaid : Prop := Claim7.holds Tryd.pinned (.plain (OpenSpec.ofChange viewNoneSpec)) viewNoneCard

/-- THE TIED CARD OF 'millpondlaw04.ViewApart'. -/
def viewApartCard : Claim7 := { stood := { row := viewApartRow, standIns := [], harness := (true, "d3023235d0d04dbed9717cbba2b856a086632fe3af8c23ae69c4e255193cda85"), looks := false }, kinds := [], alts := [], laidByText := true, laidKinds := [.data], laidTests := true, laidLooks := .later }
def ViewApartCardSaid : Prop := Claim7.holds Tryd.pinned (.plain (OpenSpec.ofChange viewApartSpec)) viewApartCard

/-- THE TIED CARD OF 'millpondlaw04.ViewPlays'. -/
def viewPlaysCard : Claim7 := { stood := { row := viewPlaysRow, standIns := [], harness := (true, "d3023235d0d04dbed9717cbba2b856a086632fe3af8c23ae69c4e255193cda85"), looks := false }, kinds := [], alts := [], laidByText := true, laidKinds := [.data], laidTests := true, laidLooks := .later }
def ViewPlaysCardSaid : Prop := Claim7.holds Tryd.pinned (.plain (OpenSpec.ofChange viewPlaysSpec)) viewPlaysCard

/-- THE TIED CARD OF 'millpondlaw04.ViewParts'. -/
def viewPartsCard : Claim7 := { stood := { row := viewPartsRow, standIns := [], harness := (true, "d3023235d0d04dbed9717cbba2b856a086632fe3af8c23ae69c4e255193cda85"), looks := false }, kinds := [], alts := [], laidByText := true, laidKinds := [.data], laidTests := true, laidLooks := .later }
def ViewPartsCardSaid : Prop := Claim7.holds Tryd.pinned (.plain (OpenSpec.ofChange viewPartsSpec)) viewPartsCard

/-- THE SECOND FORM's CARD OF 'millpondlaw03.ArenaCopies'. -/
def arenaCopiesUptoCard : Claim7 := { stood := { row := arenaCopiesUptoRow, standIns := [], harness := (true, "d3023235d0d04dbed9717cbba2b856a086632fe3af8c23ae69c4e255193cda85"), looks := false }, kinds := [], alts := [], laidByText := true, laidKinds := [.data], laidTests := true, laidLooks := .later }
def ArenaCopiesUptoCardSaid : Prop := Claim7.holds Tryd.pinned (.plain (OpenSpec.upto arenaCopiesSpec)) arenaCopiesUptoCard

/-- THE SECOND FORM's CARD OF 'millpondlaw03.ArenaGreat'. -/
def arenaGreatUptoCard : Claim7 := { stood := { row := arenaGreatUptoRow, standIns := [], harness := (true, "d3023235d0d04dbed9717cbba2b856a086632fe3af8c23ae69c4e255193cda85"), looks := false }, kinds := [], alts := [], laidByText := true, laidKinds := [.data], laidTests := true, laidLooks := .later }
def ArenaGreatUptoCardSaid : Prop := Claim7.holds Tryd.pinned (.plain (OpenSpec.upto arenaGreatSpec)) arenaGreatUptoCard

/-- THE SECOND FORM's CARD OF 'millpondlaw03.ArenaKeeps'. -/
def arenaKeepsUptoCard : Claim7 := { stood := { row := arenaKeepsUptoRow, standIns := [], harness := (true, "d3023235d0d04dbed9717cbba2b856a086632fe3af8c23ae69c4e255193cda85"), looks := false }, kinds := [], alts := [], laidByText := true, laidKinds := [.data], laidTests := true, laidLooks := .later }
def ArenaKeepsUptoCardSaid : Prop := Claim7.holds Tryd.pinned (.plain (OpenSpec.upto arenaKeepsSpec)) arenaKeepsUptoCard

/-- THE SECOND FORM's CARD OF 'millpondlaw03.ArenaPlays'. -/
def arenaPlaysUptoCard : Claim7 := { stood := { row := arenaPlaysUptoRow, standIns := [], harness := (true, "d3023235d0d04dbed9717cbba2b856a086632fe3af8c23ae69c4e255193cda85"), looks := false }, kinds := [], alts := [], laidByText := true, laidKinds := [.data], laidTests := true, laidLooks := .later }
def ArenaPlaysUptoCardSaid : Prop := Claim7.holds Tryd.pinned (.plain (OpenSpec.upto arenaPlaysSpec)) arenaPlaysUptoCard

/-- THE SECOND FORM's CARD OF 'millpondlaw03.ArenaNil'. -/
def arenaNilUptoCard : Claim7 := { stood := { row := arenaNilUptoRow, standIns := [], harness := (true, "d3023235d0d04dbed9717cbba2b856a086632fe3af8c23ae69c4e255193cda85"), looks := false }, kinds := [], alts := [], laidByText := true, laidKinds := [.data], laidTests := true, laidLooks := .later }
def ArenaNilUptoCardSaid : Prop := Claim7.holds Tryd.pinned (.plain (OpenSpec.upto arenaNilSpec)) arenaNilUptoCard

/-- THE SECOND FORM's CARD OF 'millpondlaw04.ViewTexts'. -/
def viewTextsUptoCard : Claim7 := { stood := { row := viewTextsUptoRow, standIns := [], harness := (true, "d3023235d0d04dbed9717cbba2b856a086632fe3af8c23ae69c4e255193cda85"), looks := false }, kinds := [], alts := [], laidByText := true, laidKinds := [.data], laidTests := true, laidLooks := .later }
def ViewTextsUptoCardSaid : Prop := Claim7.holds Tryd.pinned (.plain (OpenSpec.upto viewTextsSpec)) viewTextsUptoCard

/-- THE SECOND FORM's CARD OF 'millpondlaw04.ViewNone'. -/
def viewNoneUptoCard : Claim7 := { stood := { row := viewNoneUptoRow, standIns := [], harness := (true, "d3023235d0d04dbed9717cbba2b856a086632fe3af8c23ae69c4e255193cda85"), looks := false }, kinds := [], alts := [], laidByText := true, laidKinds := [.data], laidTests := true, laidLooks := .later }
def ViewNoneUptoCardSaid : Prop := Claim7.holds Tryd.pinned (.plain (OpenSpec.upto viewNoneSpec)) viewNoneUptoCard

/-- THE SECOND FORM's CARD OF 'millpondlaw04.ViewApart'. -/
def viewApartUptoCard : Claim7 := { stood := { row := viewApartUptoRow, standIns := [], harness := (true, "d3023235d0d04dbed9717cbba2b856a086632fe3af8c23ae69c4e255193cda85"), looks := false }, kinds := [], alts := [], laidByText := true, laidKinds := [.data], laidTests := true, laidLooks := .later }
def ViewApartUptoCardSaid : Prop := Claim7.holds Tryd.pinned (.plain (OpenSpec.upto viewApartSpec)) viewApartUptoCard

/-- THE SECOND FORM's CARD OF 'millpondlaw04.ViewPlays'. -/
def viewPlaysUptoCard : Claim7 := { stood := { row := viewPlaysUptoRow, standIns := [], harness := (true, "d3023235d0d04dbed9717cbba2b856a086632fe3af8c23ae69c4e255193cda85"), looks := false }, kinds := [], alts := [], laidByText := true, laidKinds := [.data], laidTests := true, laidLooks := .later }
def ViewPlaysUptoCardSaid : Prop := Claim7.holds Tryd.pinned (.plain (OpenSpec.upto viewPlaysSpec)) viewPlaysUptoCard

/-- THE SECOND FORM's CARD OF 'millpondlaw04.ViewParts'. -/
def viewPartsUptoCard : Claim7 := { stood := { row := viewPartsUptoRow, standIns := [], harness := (true, "d3023235d0d04dbed9717cbba2b856a086632fe3af8c23ae69c4e255193cda85"), looks := false }, kinds := [], alts := [], laidByText := true, laidKinds := [.data], laidTests := true, laidLooks := .later }
def ViewPartsUptoCardSaid : Prop := Claim7.holds Tryd.pinned (.plain (OpenSpec.upto viewPartsSpec)) viewPartsUptoCard
end Rows
end Go.Proofs.YtlnecfdbmoilbaaDoor
