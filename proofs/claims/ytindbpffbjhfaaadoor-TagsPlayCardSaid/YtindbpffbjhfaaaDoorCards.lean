/-
  DERIVED. GIVEN WITH THE SEED: THE CARDS: each row of YtindbpffbjhfaaaDoorRows.lean that lists a variable, with what it lists TIED to the program's text (the seventh form; the later family's looks); each row that meets fmt, with fmt's text TOLD by the authors' own Lean function (tested against real Go, not proved from fmt's source: count such statements apart). THE CARD IS WHAT COUNTS. Prove the row's statement (the work); the ties are given (YtindbpffbjhfaaaDoorTie.lean); close each card by the builder's one call (the guide's Derived/Test/ToyasCard.lean, 'card_holds'). Laid BY PROGRAM, IN A SANDBOX (cutbox-door.mjs). By AI agents, Wed Nov 11 2026. No macro, syntax, notation, axiom, sorry.
-/
import Derived.Test.YtindbpffbjhfaaaDoorRows
import GoSem.ClaimSeven
namespace Go.Proofs.YtindbpffbjhfaaaDoor
namespace Rows

/-- THE TIED CARD OF 'millpondlaw07.ListWrong'. -/
def listWrongCard : Claim7 := { stood := { row := listWrongRow, standIns := [], harness := (true, "036e44419786b4bac70da481a059ab5291320d0a32a0f0429e389980c96fac82"), looks := false }, kinds := [], alts := [], laidByText := true, laidKinds := [.data], laidTests := true, laidLooks := .later }
def ListWrongCardSaid : Prop := Claim7.holds Tryd.pinned (.plain (OpenSpec.ofChange listWrongSpec)) listWrongCard

/-- THE TIED CARD OF 'millpondlaw07.ListOrder'. -/
def listOrderCard : Claim7 := { stood := { row := listOrderRow, standIns := [], harness := (true, "036e44419786b4bac70da481a059ab5291320d0a32a0f0429e389980c96fac82"), looks := false }, kinds := [], alts := [], laidByText := true, laidKinds := [.data], laidTests := true, laidLooks := .later }
def ListOrderCardSaid : Prop := Claim7.holds Tryd.pinned (.plain (OpenSpec.ofChange listOrderSpec)) listOrderCard

/-- THE TIED CARD OF 'millpondlaw07.ListPlays'. -/
def listPlaysCard : Claim7 := { stood := { row := listPlaysRow, standIns := [], harness := (true, "036e44419786b4bac70da481a059ab5291320d0a32a0f0429e389980c96fac82"), looks := false }, kinds := [], alts := [], laidByText := true, laidKinds := [.data], laidTests := true, laidLooks := .later }
def ListPlaysCardSaid : Prop := Claim7.holds Tryd.pinned (.plain (OpenSpec.ofChange listPlaysSpec)) listPlaysCard

/-- THE TIED CARD OF 'millpondlaw14.ObjectWrites'. -/
def objectWritesCard : Claim7 := { stood := { row := objectWritesRow, standIns := [], harness := (true, "036e44419786b4bac70da481a059ab5291320d0a32a0f0429e389980c96fac82"), looks := false }, kinds := [], alts := [], laidByText := true, laidKinds := [.data], laidTests := true, laidLooks := .later }
def ObjectWritesCardSaid : Prop := Claim7.holds Tryd.pinned (.plain (OpenSpec.ofChange objectWritesSpec)) objectWritesCard

/-- THE TIED CARD OF 'millpondlaw10.ChunkPlays'. -/
def chunkPlaysCard : Claim7 := { stood := { row := chunkPlaysRow, standIns := [], harness := (true, "036e44419786b4bac70da481a059ab5291320d0a32a0f0429e389980c96fac82"), looks := false }, kinds := [], alts := [], laidByText := true, laidKinds := [.data], laidTests := true, laidLooks := .later }
def ChunkPlaysCardSaid : Prop := Claim7.holds Tryd.pinned (.plain (OpenSpec.ofChange chunkPlaysSpec)) chunkPlaysCard

/-- THE TIED CARD OF 'millpondlaw22.DataTells'. -/
def dataTellsCard : Claim7 := { stood := { row := dataTellsRow, standIns := [], harness := (true, "036e44419786b4bac70da481a059ab5291320d0a32a0f0429e389980c96fac82"), looks := false }, kinds := [], alts := [], laidByText := true, laidKinds := [.data], laidTests := true, laidLooks := .later }
def DataTellsCardSaid : Prop := Claim7.holds Tryd.pinned (.plain (OpenSpec.ofChange dataTellsSpec)) dataTellsCard

/-- THE TIED CARD OF 'millpondlaw22.DataOrder'. -/
def dataOrderCard : Claim7 := { stood := { row := dataOrderRow, standIns := [], harness := (true, "036e44419786b4bac70da481a059ab5291320d0a32a0f0429e389980c96fac82"), looks := false }, kinds := [], alts := [], laidByText := true, laidKinds := [.data], laidTests := true, laidLooks := .later }
def DataOrderCardSaid : Prop := Claim7.holds Tryd.pinned (.plain (OpenSpec.ofChange dataOrderSpec)) dataOrderCard

/-- THE TIED CARD OF 'millpondlaw21.CleanPlays'. -/
def cleanPlaysCard : Claim7 := { stood := { row := cleanPlaysRow, standIns := [], harness := (true, "036e44419786b4bac70da481a059ab5291320d0a32a0f0429e389980c96fac82"), looks := false }, kinds := [], alts := [], laidByText := true, laidKinds := [.data], laidTests := true, laidLooks := .later }
def CleanPlaysCardSaid : Prop := Claim7.holds Tryd.pinned (.plain (OpenSpec.ofChange cleanPlaysSpec)) cleanPlaysCard

/-- THE TIED CARD OF 'millpondlaw11.BinsPlay'. -/
def binsPlayCard : Claim7 := { stood := { row := binsPlayRow, standIns := [], harness := (true, "036e44419786b4bac70da481a059ab5291320d0a32a0f0429e389980c96fac82"), looks := false }, kinds := [], alts := [], laidByText := true, laidKinds := [.data], laidTests := true, laidLooks := .later }
def BinsPlayCardSaid : Prop := Claim7.holds Tryd.pinned (.plain (OpenSpec.ofChange binsPlaySpec)) binsPlayCard

/-- THE TIED CARD OF 'millpondlaw17.HandlePlays'. -/
def handlePlaysCard : Claim7 := { stood := { row := handlePlaysRow, standIns := [], harness := (true, "036e44419786b4bac70da481a059ab5291320d0a32a0f0429e389980c96fac82"), looks := false }, kinds := [], alts := [], laidByText := true, laidKinds := [.data], laidTests := true, laidLooks := .later }
def HandlePlaysCardSaid : Prop := Claim7.holds Tryd.pinned (.plain (OpenSpec.ofChange handlePlaysSpec)) handlePlaysCard

/-- THE TIED CARD OF 'millpondlaw06.TagsPlay'. -/
def tagsPlayCard : Claim7 := { stood := { row := tagsPlayRow, standIns := [], harness := (true, "036e44419786b4bac70da481a059ab5291320d0a32a0f0429e389980c96fac82"), looks := false }, kinds := [], alts := [], laidByText := true, laidKinds := [.data], laidTests := true, laidLooks := .later }
def TagsPlayCardSaid : Prop := Claim7.holds Tryd.pinned (.plain (OpenSpec.ofChange tagsPlaySpec)) tagsPlayCard

/-- THE SECOND FORM's CARD OF 'millpondlaw07.ListWrong'. -/
def listWrongUptoCard : Claim7 := { stood := { row := listWrongUptoRow, standIns := [], harness := (true, "036e44419786b4bac70da481a059ab5291320d0a32a0f0429e389980c96fac82"), looks := false }, kinds := [], alts := [], laidByText := true, laidKinds := [.data], laidTests := true, laidLooks := .later }
def ListWrongUptoCardSaid : Prop := Claim7.holds Tryd.pinned (.plain (OpenSpec.upto listWrongSpec)) listWrongUptoCard

/-- THE SECOND FORM's CARD OF 'millpondlaw07.ListOrder'. -/
def listOrderUptoCard : Claim7 := { stood := { row := listOrderUptoRow, standIns := [], harness := (true, "036e44419786b4bac70da481a059ab5291320d0a32a0f0429e389980c96fac82"), looks := false }, kinds := [], alts := [], laidByText := true, laidKinds := [.data], laidTests := true, laidLooks := .later }
def ListOrderUptoCardSaid : Prop := Claim7.holds Tryd.pinned (.plain (OpenSpec.upto listOrderSpec)) listOrderUptoCard

/-- THE SECOND FORM's CARD OF 'millpondlaw07.ListPlays'. -/
def listPlaysUptoCard : Claim7 := { stood := { row := listPlaysUptoRow, standIns := [], harness := (true, "036e44419786b4bac70da481a059ab5291320d0a32a0f0429e389980c96fac82"), looks := false }, kinds := [], alts := [], laidByText := true, laidKinds := [.data], laidTests := true, laidLooks := .later }
def ListPlaysUptoCardSaid : Prop := Claim7.holds Tryd.pinned (.plain (OpenSpec.upto listPlaysSpec)) listPlaysUptoCard

/-- THE SECOND FORM's CARD OF 'millpondlaw14.ObjectWrites'. -/
def objectWritesUptoCard : Claim7 := { stood := { row := objectWritesUptoRow, standIns := [], harness := (true, "036e44419786b4bac70da481a059ab5291320d0a32a0f0429e389980c96fac82"), looks := false }, kinds := [], alts := [], laidByText := true, laidKinds := [.data], laidTests := true, laidLooks := .later }
def ObjectWritesUptoCardSaid : Prop := Claim7.holds Tryd.pinned (.plain (OpenSpec.upto objectWritesSpec)) objectWritesUptoCard

/-- THE SECOND FORM's CARD OF 'millpondlaw10.ChunkPlays'. -/
def chunkPlaysUptoCard : Claim7 := { stood := { row := chunkPlaysUptoRow, standIns := [], harness := (true, "036e44419786b4bac70da481a059ab5291320d0a32a0f0429e389980c96fac82"), looks := false }, kinds := [], alts := [], laidByText := true, laidKinds := [.data], laidTests := true, laidLooks := .later }
def ChunkPlaysUptoCardSaid : Prop := Claim7.holds Tryd.pinned (.plain (OpenSpec.upto chunkPlaysSpec)) chunkPlaysUptoCard

/-- THE SECOND FORM's CARD OF 'millpondlaw22.DataTells'. -/
def dataTellsUptoCard : Claim7 := { stood := { row := dataTellsUptoRow, standIns := [], harness := (true, "036e44419786b4bac70da481a059ab5291320d0a32a0f0429e389980c96fac82"), looks := false }, kinds := [], alts := [], laidByText := true, laidKinds := [.data], laidTests := true, laidLooks := .later }
def DataTellsUptoCardSaid : Prop := Claim7.holds Tryd.pinned (.plain (OpenSpec.upto dataTellsSpec)) dataTellsUptoCard

/-- THE SECOND FORM's CARD OF 'millpondlaw22.DataOrder'. -/
def dataOrderUptoCard : Claim7 := { stood := { row := dataOrderUptoRow, standIns := [], harness := (true, "036e44419786b4bac70da481a059ab5291320d0a32a0f0429e389980c96fac82"), looks := false }, kinds := [], alts := [], laidByText := true, laidKinds := [.data], laidTests := true, laidLooks := .later }
def DataOrderUptoCardSaid : Prop := Claim7.holds Tryd.pinned (.plain (OpenSpec.upto dataOrderSpec)) dataOrderUptoCard

/-- THE SECOND FORM's CARD OF 'millpondlaw21.CleanPlays'. -/
def cleanPlaysUptoCard : Claim7 := { stood := { row := cleanPlaysUptoRow, standIns := [], harness := (true, "036e44419786b4bac70da481a059ab5291320d0a32a0f0429e389980c96fac82"), looks := false }, kinds := [], alts := [], laidByText := true, laidKinds := [.data], laidTests := true, laidLooks := .later }
def CleanPlaysUptoCardSaid : Prop := Claim7.holds Tryd.pinned (.plain (OpenSpec.upto cleanPlaysSpec)) cleanPlaysUptoCard

/-- THE SECOND FORM's CARD OF 'millpondlaw11.BinsPlay'. -/
def binsPlayUptoCard : Claim7 := { stood := { row := binsPlayUptoRow, standIns := [], harness := (true, "036e44419786b4bac70da481a059ab5291320d0a32a0f0429e389980c96fac82"), looks := false }, kinds := [], alts := [], laidByText := true, laidKinds := [.data], laidTests := true, laidLooks := .later }
def BinsPlayUptoCardSaid : Prop := Claim7.holds Tryd.pinned (.plain (OpenSpec.upto binsPlaySpec)) binsPlayUptoCard

/-- THE SECOND FORM's CARD OF 'millpondlaw17.HandlePlays'. -/
def handlePlaysUptoCard : Claim7 := { stood := { row := handlePlaysUptoRow, standIns := [], harness := (true, "036e44419786b4bac70da481a059ab5291320d0a32a0f0429e389980c96fac82"), looks := false }, kinds := [], alts := [], laidByText := true, laidKinds := [.data], laidTests := true, laidLooks := .later }
def HandlePlaysUptoCardSaid : Prop := Claim7.holds Tryd.pinned (.plain (OpenSpec.upto handlePlaysSpec)) handlePlaysUptoCard

/-- THE SECOND FORM's CARD OF 'millpondlaw06.TagsPlay'. -/
def tagsPlayUptoCard : Claim7 := { stood := { row := tagsPlayUptoRow, standIns := [], harness := (true, "036e44419786b4bac70da481a059ab5291320d0a32a0f0429e389980c96fac82"), looks := false }, kinds := [], alts := [], laidByText := true, laidKinds := [.data], laidTests := true, laidLooks := .later }
def TagsPlayUptoCardSaid : Prop := Claim7.holds Tryd.pinned (.plain (OpenSpec.upto tagsPlaySpec)) tagsPlayUptoCard
end Rows
end Go.Proofs.YtindbpffbjhfaaaDoor
