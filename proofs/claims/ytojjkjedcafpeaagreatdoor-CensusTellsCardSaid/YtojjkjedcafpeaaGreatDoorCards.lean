/-
  DERIVED. GIVEN WITH THE SEED: THE CARDS: each row of YtojjkjedcafpeaaGreatDoorRows.lean that lists a variable, with what it lists TIED to the program's text (the seventh form; the later family's looks); each row that meets fmt, with fmt's text TOLD by the authors' own Lean function (tested against real Go, not proved from fmt's source: count such statements apart). THE CARD IS WHAT COUNTS. Prove the row's statement (the work); the ties are given (YtojjkjedcafpeaaGreatDoorTie.lean); close each card by the builder's one call (the guide's Derived/Test/ToyasCard.lean, 'card_holds'). Laid BY PROGRAM, IN A SANDBOX (cutbox-door.mjs). By AI agents, Wed Nov 11 2026. No macro, syntax, notation, axiom, sorry.
-/
import Derived.Test.YtojjkjedcafpeaaGreatDoorRows
import GoSem.ClaimSeven
namespace Go.Proofs.YtojjkjedcafpeaaGreatDoor
namespace Rows

/-- THE TIED CARD OF 'millpondlaw08.BuddyWrong'. -/
def buddyWrongCard : Claim7 := { stood := { row := buddyWrongRow, standIns := [], harness := (true, "078edc5980388469e20f49557245c76c9e0c13e818a7055bcd1386da1866686d"), looks := false }, kinds := [], alts := [], laidByText := true, laidKinds := [.data, .data], laidTests := true, laidLooks := .later }
def BuddyWrongCardSaid : Prop := Claim7.holds Tryz.pinned (.plain (OpenSpec.ofChange buddyWrongSpec)) buddyWrongCard

/-- THE TIED CARD OF 'millpondlaw08.BuddyBack'. -/
def buddyBackCard : Claim7 := { stood := { row := buddyBackRow, standIns := [], harness := (true, "078edc5980388469e20f49557245c76c9e0c13e818a7055bcd1386da1866686d"), looks := false }, kinds := [], alts := [], laidByText := true, laidKinds := [.data, .data], laidTests := true, laidLooks := .later }
def BuddyBackCardSaid : Prop := Claim7.holds Tryz.pinned (.plain (OpenSpec.ofChange buddyBackSpec)) buddyBackCard

/-- THE TIED CARD OF 'millpondlaw08.BuddyGrows'. -/
def buddyGrowsCard : Claim7 := { stood := { row := buddyGrowsRow, standIns := [], harness := (true, "078edc5980388469e20f49557245c76c9e0c13e818a7055bcd1386da1866686d"), looks := false }, kinds := [], alts := [], laidByText := true, laidKinds := [.data, .data], laidTests := true, laidLooks := .later }
def BuddyGrowsCardSaid : Prop := Claim7.holds Tryz.pinned (.plain (OpenSpec.ofChange buddyGrowsSpec)) buddyGrowsCard

/-- THE TIED CARD OF 'millpondlaw08.BuddyApart'. -/
def buddyApartCard : Claim7 := { stood := { row := buddyApartRow, standIns := [], harness := (true, "078edc5980388469e20f49557245c76c9e0c13e818a7055bcd1386da1866686d"), looks := false }, kinds := [], alts := [], laidByText := true, laidKinds := [.data, .data], laidTests := true, laidLooks := .later }
def BuddyApartCardSaid : Prop := Claim7.holds Tryz.pinned (.plain (OpenSpec.ofChange buddyApartSpec)) buddyApartCard

/-- THE TIED CARD OF 'millpondlaw08.BuddyPlays'. -/
def buddyPlaysCard : Claim7 := { stood := { row := buddyPlaysRow, standIns := [], harness := (true, "078edc5980388469e20f49557245c76c9e0c13e818a7055bcd1386da1866686d"), looks := false }, kinds := [], alts := [], laidByText := true, laidKinds := [.data, .data], laidTests := true, laidLooks := .later }
def BuddyPlaysCardSaid : Prop := Claim7.holds Tryz.pinned (.plain (OpenSpec.ofChange buddyPlaysSpec)) buddyPlaysCard

/-- THE TIED CARD OF 'millpondlaw09.CensusCounts'. -/
def censusCountsCard : Claim7 := { stood := { row := censusCountsRow, standIns := [], harness := (true, "078edc5980388469e20f49557245c76c9e0c13e818a7055bcd1386da1866686d"), looks := false }, kinds := [], alts := [], laidByText := true, laidKinds := [.data, .data], laidTests := true, laidLooks := .later }
def CensusCountsCardSaid : Prop := Claim7.holds Tryz.pinned (.plain (OpenSpec.ofChange censusCountsSpec)) censusCountsCard

/-- THE TIED CARD OF 'millpondlaw09.CensusTells'. -/
def censusTellsCard : Claim7 := { stood := { row := censusTellsRow, standIns := [], harness := (true, "078edc5980388469e20f49557245c76c9e0c13e818a7055bcd1386da1866686d"), looks := false }, kinds := [], alts := [], laidByText := true, laidKinds := [.data, .data], laidTests := true, laidLooks := .later }
def CensusTellsCardSaid : Prop := Claim7.holds Tryz.pinned (.plain (OpenSpec.ofChange censusTellsSpec)) censusTellsCard

/-- THE TIED CARD OF 'millpondlaw09.CensusGives'. -/
def censusGivesCard : Claim7 := { stood := { row := censusGivesRow, standIns := [], harness := (true, "078edc5980388469e20f49557245c76c9e0c13e818a7055bcd1386da1866686d"), looks := false }, kinds := [], alts := [], laidByText := true, laidKinds := [.data, .data], laidTests := true, laidLooks := .later }
def CensusGivesCardSaid : Prop := Claim7.holds Tryz.pinned (.plain (OpenSpec.ofChange censusGivesSpec)) censusGivesCard

/-- THE TIED CARD OF 'millpondlaw09.CensusStill'. -/
def censusStillCard : Claim7 := { stood := { row := censusStillRow, standIns := [], harness := (true, "078edc5980388469e20f49557245c76c9e0c13e818a7055bcd1386da1866686d"), looks := false }, kinds := [], alts := [], laidByText := true, laidKinds := [.data, .data], laidTests := true, laidLooks := .later }
def CensusStillCardSaid : Prop := Claim7.holds Tryz.pinned (.plain (OpenSpec.ofChange censusStillSpec)) censusStillCard

/-- THE SECOND FORM's CARD OF 'millpondlaw08.BuddyWrong'. -/
def buddyWrongUptoCard : Claim7 := { stood := { row := buddyWrongUptoRow, standIns := [], harness := (true, "078edc5980388469e20f49557245c76c9e0c13e818a7055bcd1386da1866686d"), looks := false }, kinds := [], alts := [], laidByText := true, laidKinds := [.data, .data], laidTests := true, laidLooks := .later }
def BuddyWrongUptoCardSaid : Prop := Claim7.holds Tryz.pinned (.plain (OpenSpec.upto buddyWrongSpec)) buddyWrongUptoCard

/-- THE SECOND FORM's CARD OF 'millpondlaw08.BuddyBack'. -/
def buddyBackUptoCard : Claim7 := { stood := { row := buddyBackUptoRow, standIns := [], harness := (true, "078edc5980388469e20f49557245c76c9e0c13e818a7055bcd1386da1866686d"), looks := false }, kinds := [], alts := [], laidByText := true, laidKinds := [.data, .data], laidTests := true, laidLooks := .later }
def BuddyBackUptoCardSaid : Prop := Claim7.holds Tryz.pinned (.plain (OpenSpec.upto buddyBackSpec)) buddyBackUptoCard

/-- THE SECOND FORM's CARD OF 'millpondlaw08.BuddyGrows'. -/
def buddyGrowsUptoCard : Claim7 := { stood := { row := buddyGrowsUptoRow, standIns := [], harness := (true, "078edc5980388469e20f49557245c76c9e0c13e818a7055bcd1386da1866686d"), looks := false }, kinds := [], alts := [], laidByText := true, laidKinds := [.data, .data], laidTests := true, laidLooks := .later }
def BuddyGrowsUptoCardSaid : Prop := Claim7.holds Tryz.pinned (.plain (OpenSpec.upto buddyGrowsSpec)) buddyGrowsUptoCard

/-- THE SECOND FORM's CARD OF 'millpondlaw08.BuddyApart'. -/
def buddyApartUptoCard : Claim7 := { stood := { row := buddyApartUptoRow, standIns := [], harness := (true, "078edc5980388469e20f49557245c76c9e0c13e818a7055bcd1386da1866686d"), looks := false }, kinds := [], alts := [], laidByText := true, laidKinds := [.data, .data], laidTests := true, laidLooks := .later }
def BuddyApartUptoCardSaid : Prop := Claim7.holds Tryz.pinned (.plain (OpenSpec.upto buddyApartSpec)) buddyApartUptoCard

/-- THE SECOND FORM's CARD OF 'millpondlaw08.BuddyPlays'. -/
def buddyPlaysUptoCard : Claim7 := { stood := { row := buddyPlaysUptoRow, standIns := [], harness := (true, "078edc5980388469e20f49557245c76c9e0c13e818a7055bcd1386da1866686d"), looks := false }, kinds := [], alts := [], laidByText := true, laidKinds := [.data, .data], laidTests := true, laidLooks := .later }
def BuddyPlaysUptoCardSaid : Prop := Claim7.holds Tryz.pinned (.plain (OpenSpec.upto buddyPlaysSpec)) buddyPlaysUptoCard

/-- THE SECOND FORM's CARD OF 'millpondlaw09.CensusCounts'. -/
def censusCountsUptoCard : Claim7 := { stood := { row := censusCountsUptoRow, standIns := [], harness := (true, "078edc5980388469e20f49557245c76c9e0c13e818a7055bcd1386da1866686d"), looks := false }, kinds := [], alts := [], laidByText := true, laidKinds := [.data, .data], laidTests := true, laidLooks := .later }
def CensusCountsUptoCardSaid : Prop := Claim7.holds Tryz.pinned (.plain (OpenSpec.upto censusCountsSpec)) censusCountsUptoCard

/-- THE SECOND FORM's CARD OF 'millpondlaw09.CensusTells'. -/
def censusTellsUptoCard : Claim7 := { stood := { row := censusTellsUptoRow, standIns := [], harness := (true, "078edc5980388469e20f49557245c76c9e0c13e818a7055bcd1386da1866686d"), looks := false }, kinds := [], alts := [], laidByText := true, laidKinds := [.data, .data], laidTests := true, laidLooks := .later }
def CensusTellsUptoCardSaid : Prop := Claim7.holds Tryz.pinned (.plain (OpenSpec.upto censusTellsSpec)) censusTellsUptoCard

/-- THE SECOND FORM's CARD OF 'millpondlaw09.CensusGives'. -/
def censusGivesUptoCard : Claim7 := { stood := { row := censusGivesUptoRow, standIns := [], harness := (true, "078edc5980388469e20f49557245c76c9e0c13e818a7055bcd1386da1866686d"), looks := false }, kinds := [], alts := [], laidByText := true, laidKinds := [.data, .data], laidTests := true, laidLooks := .later }
def CensusGivesUptoCardSaid : Prop := Claim7.holds Tryz.pinned (.plain (OpenSpec.upto censusGivesSpec)) censusGivesUptoCard

/-- THE SECOND FORM's CARD OF 'millpondlaw09.CensusStill'. -/
def censusStillUptoCard : Claim7 := { stood := { row := censusStillUptoRow, standIns := [], harness := (true, "078edc5980388469e20f49557245c76c9e0c13e818a7055bcd1386da1866686d"), looks := false }, kinds := [], alts := [], laidByText := true, laidKinds := [.data, .data], laidTests := true, laidLooks := .later }
def CensusStillUptoCardSaid : Prop := Claim7.holds Tryz.pinned (.plain (OpenSpec.upto censusStillSpec)) censusStillUptoCard
end Rows
end Go.Proofs.YtojjkjedcafpeaaGreatDoor
