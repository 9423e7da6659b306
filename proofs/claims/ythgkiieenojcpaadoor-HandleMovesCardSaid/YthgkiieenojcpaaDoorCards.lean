/-
  DERIVED. GIVEN WITH THE SEED: THE CARDS: each row of YthgkiieenojcpaaDoorRows.lean that lists a variable, with what it lists TIED to the program's text (the seventh form; the later family's looks); each row that meets fmt, with fmt's text TOLD by the authors' own Lean function (tested against real Go, not proved from fmt's source: count such statements apart). THE CARD IS WHAT COUNTS. Prove the row's statement (the work); the ties are given (YthgkiieenojcpaaDoorTie.lean); close each card by the builder's one call (the guide's Derived/Test/ToyasCard.lean, 'card_holds'). Laid BY PROGRAM, IN A SANDBOX (cutbox-door.mjs). By AI agents, Wed Nov 11 2026. No macro, syntax, notation, axiom, sorry.
-/
import Derived.Test.YthgkiieenojcpaaDoorRows
import GoSem.ClaimSeven
namespace Go.Proofs.YthgkiieenojcpaaDoor
namespace Rows

/-- THE TIED CARD OF 'millpondlaw02.BitsRows'. -/
def bitsRowsCard : Claim7 := { stood := { row := bitsRowsRow, standIns := [], harness := (true, "74b240e43cbf30e08c464468608e99e36298986985ca04a16f1ce697d14ffd57"), looks := false }, kinds := [], alts := [], laidByText := true, laidKinds := [.data], laidTests := true, laidLooks := .later }
def BitsRowsCardSaid : Prop := Claim7.holds Tryd.pinned (.plain (OpenSpec.ofChange bitsRowsSpec)) bitsRowsCard

/-- THE TIED CARD OF 'millpondlaw02.BitsPlay'. -/
def bitsPlayCard : Claim7 := { stood := { row := bitsPlayRow, standIns := [], harness := (true, "74b240e43cbf30e08c464468608e99e36298986985ca04a16f1ce697d14ffd57"), looks := false }, kinds := [], alts := [], laidByText := true, laidKinds := [.data], laidTests := true, laidLooks := .later }
def BitsPlayCardSaid : Prop := Claim7.holds Tryd.pinned (.plain (OpenSpec.ofChange bitsPlaySpec)) bitsPlayCard

/-- THE TIED CARD OF 'millpondlaw03.ArenaPlays'. -/
def arenaPlaysCard : Claim7 := { stood := { row := arenaPlaysRow, standIns := [], harness := (true, "74b240e43cbf30e08c464468608e99e36298986985ca04a16f1ce697d14ffd57"), looks := false }, kinds := [], alts := [], laidByText := true, laidKinds := [.data], laidTests := true, laidLooks := .later }
def ArenaPlaysCardSaid : Prop := Claim7.holds Tryd.pinned (.plain (OpenSpec.ofChange arenaPlaysSpec)) arenaPlaysCard

/-- THE TIED CARD OF 'millpondlaw04.ViewTexts'. -/
def viewTextsCard : Claim7 := { stood := { row := viewTextsRow, standIns := [], harness := (true, "74b240e43cbf30e08c464468608e99e36298986985ca04a16f1ce697d14ffd57"), looks := false }, kinds := [], alts := [], laidByText := true, laidKinds := [.data], laidTests := true, laidLooks := .later }
def ViewTextsCardSaid : Prop := Claim7.holds Tryd.pinned (.plain (OpenSpec.ofChange viewTextsSpec)) viewTextsCard

/-- THE TIED CARD OF 'millpondlaw04.ViewApart'. -/
def viewApartCard : Claim7 := { stood := { row := viewApartRow, standIns := [], harness := (true, "74b240e43cbf30e08c464468608e99e36298986985ca04a16f1ce697d14ffd57"), looks := false }, kinds := [], alts := [], laidByText := true, laidKinds := [.data], laidTests := true, laidLooks := .later }
def ViewApartCardSaid : Prop := Claim7.holds Tryd.pinned (.plain (OpenSpec.ofChange viewApartSpec)) viewApartCard

/-- THE TIED CARD OF 'millpondlaw04.ViewPlays'. -/
def viewPlaysCard : Claim7 := { stood := { row := viewPlaysRow, standIns := [], harness := (true, "74b240e43cbf30e08c464468608e99e36298986985ca04a16f1ce697d14ffd57"), looks := false }, kinds := [], alts := [], laidByText := true, laidKinds := [.data], laidTests := true, laidLooks := .later }
def ViewPlaysCardSaid : Prop := Claim7.holds Tryd.pinned (.plain (OpenSpec.ofChange viewPlaysSpec)) viewPlaysCard

/-- THE TIED CARD OF 'millpondlaw04.ViewParts'. -/
def viewPartsCard : Claim7 := { stood := { row := viewPartsRow, standIns := [], harness := (true, "74b240e43cbf30e08c464468608e99e36298986985ca04a16f1ce697d14ffd57"), looks := false }, kinds := [], alts := [], laidByText := true, laidKinds := [.data], laidTests := true, laidLooks := .later }
def ViewPartsCardSaid : Prop := Claim7.holds Tryd.pinned (.plain (OpenSpec.ofChange viewPartsSpec)) viewPartsCard

/-- THE TIED CARD OF 'millpondlaw05.FieldTexts'. -/
def fieldTextsCard : Claim7 := { stood := { row := fieldTextsRow, standIns := [], harness := (true, "74b240e43cbf30e08c464468608e99e36298986985ca04a16f1ce697d14ffd57"), looks := false }, kinds := [], alts := [], laidByText := true, laidKinds := [.data], laidTests := true, laidLooks := .later }
def FieldTextsCardSaid : Prop := Claim7.holds Tryd.pinned (.plain (OpenSpec.ofChange fieldTextsSpec)) fieldTextsCard

/-- THE TIED CARD OF 'millpondlaw06.TagsLaid'. -/
def tagsLaidCard : Claim7 := { stood := { row := tagsLaidRow, standIns := [], harness := (true, "74b240e43cbf30e08c464468608e99e36298986985ca04a16f1ce697d14ffd57"), looks := false }, kinds := [], alts := [], laidByText := true, laidKinds := [.data], laidTests := true, laidLooks := .later }
def TagsLaidCardSaid : Prop := Claim7.holds Tryd.pinned (.plain (OpenSpec.ofChange tagsLaidSpec)) tagsLaidCard

/-- THE TIED CARD OF 'millpondlaw17.HandleMoves'. -/
def handleMovesCard : Claim7 := { stood := { row := handleMovesRow, standIns := [], harness := (true, "74b240e43cbf30e08c464468608e99e36298986985ca04a16f1ce697d14ffd57"), looks := false }, kinds := [], alts := [], laidByText := true, laidKinds := [.data], laidTests := true, laidLooks := .later }
def HandleMovesCardSaid : Prop := Claim7.holds Tryd.pinned (.plain (OpenSpec.ofChange handleMovesSpec)) handleMovesCard

/-- THE TIED CARD OF 'millpondlaw17.HandleNever'. -/
def handleNeverCard : Claim7 := { stood := { row := handleNeverRow, standIns := [], harness := (true, "74b240e43cbf30e08c464468608e99e36298986985ca04a16f1ce697d14ffd57"), looks := false }, kinds := [], alts := [], laidByText := true, laidKinds := [.data], laidTests := true, laidLooks := .later }
def HandleNeverCardSaid : Prop := Claim7.holds Tryd.pinned (.plain (OpenSpec.ofChange handleNeverSpec)) handleNeverCard

/-- THE SECOND FORM's CARD OF 'millpondlaw02.BitsRows'. -/
def bitsRowsUptoCard : Claim7 := { stood := { row := bitsRowsUptoRow, standIns := [], harness := (true, "74b240e43cbf30e08c464468608e99e36298986985ca04a16f1ce697d14ffd57"), looks := false }, kinds := [], alts := [], laidByText := true, laidKinds := [.data], laidTests := true, laidLooks := .later }
def BitsRowsUptoCardSaid : Prop := Claim7.holds Tryd.pinned (.plain (OpenSpec.upto bitsRowsSpec)) bitsRowsUptoCard

/-- THE SECOND FORM's CARD OF 'millpondlaw02.BitsPlay'. -/
def bitsPlayUptoCard : Claim7 := { stood := { row := bitsPlayUptoRow, standIns := [], harness := (true, "74b240e43cbf30e08c464468608e99e36298986985ca04a16f1ce697d14ffd57"), looks := false }, kinds := [], alts := [], laidByText := true, laidKinds := [.data], laidTests := true, laidLooks := .later }
def BitsPlayUptoCardSaid : Prop := Claim7.holds Tryd.pinned (.plain (OpenSpec.upto bitsPlaySpec)) bitsPlayUptoCard

/-- THE SECOND FORM's CARD OF 'millpondlaw03.ArenaPlays'. -/
def arenaPlaysUptoCard : Claim7 := { stood := { row := arenaPlaysUptoRow, standIns := [], harness := (true, "74b240e43cbf30e08c464468608e99e36298986985ca04a16f1ce697d14ffd57"), looks := false }, kinds := [], alts := [], laidByText := true, laidKinds := [.data], laidTests := true, laidLooks := .later }
def ArenaPlaysUptoCardSaid : Prop := Claim7.holds Tryd.pinned (.plain (OpenSpec.upto arenaPlaysSpec)) arenaPlaysUptoCard

/-- THE SECOND FORM's CARD OF 'millpondlaw04.ViewTexts'. -/
def viewTextsUptoCard : Claim7 := { stood := { row := viewTextsUptoRow, standIns := [], harness := (true, "74b240e43cbf30e08c464468608e99e36298986985ca04a16f1ce697d14ffd57"), looks := false }, kinds := [], alts := [], laidByText := true, laidKinds := [.data], laidTests := true, laidLooks := .later }
def ViewTextsUptoCardSaid : Prop := Claim7.holds Tryd.pinned (.plain (OpenSpec.upto viewTextsSpec)) viewTextsUptoCard

/-- THE SECOND FORM's CARD OF 'millpondlaw04.ViewApart'. -/
def viewApartUptoCard : Claim7 := { stood := { row := viewApartUptoRow, standIns := [], harness := (true, "74b240e43cbf30e08c464468608e99e36298986985ca04a16f1ce697d14ffd57"), looks := false }, kinds := [], alts := [], laidByText := true, laidKinds := [.data], laidTests := true, laidLooks := .later }
def ViewApartUptoCardSaid : Prop := Claim7.holds Tryd.pinned (.plain (OpenSpec.upto viewApartSpec)) viewApartUptoCard

/-- THE SECOND FORM's CARD OF 'millpondlaw04.ViewPlays'. -/
def viewPlaysUptoCard : Claim7 := { stood := { row := viewPlaysUptoRow, standIns := [], harness := (true, "74b240e43cbf30e08c464468608e99e36298986985ca04a16f1ce697d14ffd57"), looks := false }, kinds := [], alts := [], laidByText := true, laidKinds := [.data], laidTests := true, laidLooks := .later }
def ViewPlaysUptoCardSaid : Prop := Claim7.holds Tryd.pinned (.plain (OpenSpec.upto viewPlaysSpec)) viewPlaysUptoCard

/-- THE SECOND FORM's CARD OF 'millpondlaw04.ViewParts'. -/
def viewPartsUptoCard : Claim7 := { stood := { row := viewPartsUptoRow, standIns := [], harness := (true, "74b240e43cbf30e08c464468608e99e36298986985ca04a16f1ce697d14ffd57"), looks := false }, kinds := [], alts := [], laidByText := true, laidKinds := [.data], laidTests := true, laidLooks := .later }
def ViewPartsUptoCardSaid : Prop := Claim7.holds Tryd.pinned (.plain (OpenSpec.upto viewPartsSpec)) viewPartsUptoCard

/-- THE SECOND FORM's CARD OF 'millpondlaw05.FieldTexts'. -/
def fieldTextsUptoCard : Claim7 := { stood := { row := fieldTextsUptoRow, standIns := [], harness := (true, "74b240e43cbf30e08c464468608e99e36298986985ca04a16f1ce697d14ffd57"), looks := false }, kinds := [], alts := [], laidByText := true, laidKinds := [.data], laidTests := true, laidLooks := .later }
def FieldTextsUptoCardSaid : Prop := Claim7.holds Tryd.pinned (.plain (OpenSpec.upto fieldTextsSpec)) fieldTextsUptoCard

/-- THE SECOND FORM's CARD OF 'millpondlaw06.TagsLaid'. -/
def tagsLaidUptoCard : Claim7 := { stood := { row := tagsLaidUptoRow, standIns := [], harness := (true, "74b240e43cbf30e08c464468608e99e36298986985ca04a16f1ce697d14ffd57"), looks := false }, kinds := [], alts := [], laidByText := true, laidKinds := [.data], laidTests := true, laidLooks := .later }
def TagsLaidUptoCardSaid : Prop := Claim7.holds Tryd.pinned (.plain (OpenSpec.upto tagsLaidSpec)) tagsLaidUptoCard

/-- THE SECOND FORM's CARD OF 'millpondlaw17.HandleMoves'. -/
def handleMovesUptoCard : Claim7 := { stood := { row := handleMovesUptoRow, standIns := [], harness := (true, "74b240e43cbf30e08c464468608e99e36298986985ca04a16f1ce697d14ffd57"), looks := false }, kinds := [], alts := [], laidByText := true, laidKinds := [.data], laidTests := true, laidLooks := .later }
def HandleMovesUptoCardSaid : Prop := Claim7.holds Tryd.pinned (.plain (OpenSpec.upto handleMovesSpec)) handleMovesUptoCard

/-- THE SECOND FORM's CARD OF 'millpondlaw17.HandleNever'. -/
def handleNeverUptoCard : Claim7 := { stood := { row := handleNeverUptoRow, standIns := [], harness := (true, "74b240e43cbf30e08c464468608e99e36298986985ca04a16f1ce697d14ffd57"), looks := false }, kinds := [], alts := [], laidByText := true, laidKinds := [.data], laidTests := true, laidLooks := .later }
def HandleNeverUptoCardSaid : Prop := Claim7.holds Tryd.pinned (.plain (OpenSpec.upto handleNeverSpec)) handleNeverUptoCard
end Rows
end Go.Proofs.YthgkiieenojcpaaDoor
