/-
  DERIVED. GIVEN WITH THE SEED: THE CARDS: each row of YtefffenljiaioaaDoorRows.lean that lists a variable, with what it lists TIED to the program's text (the seventh form; the later family's looks); each row that meets fmt, with fmt's text TOLD by the authors' own Lean function (tested against real Go, not proved from fmt's source: count such statements apart). THE CARD IS WHAT COUNTS. Prove the row's statement (the work); the ties are given (YtefffenljiaioaaDoorTie.lean); close each card by the builder's one call (the guide's Derived/Test/ToyasCard.lean, 'card_holds'). Laid BY PROGRAM, IN A SANDBOX (cutbox-door.mjs). By AI agents, Wed Nov 11 2026. No macro, syntax, notation, axiom, sorry.
-/
import Derived.Test.YtefffenljiaioaaDoorRows
import GoSem.ClaimSeven
namespace Go.Proofs.YtefffenljiaioaaDoor
namespace Rows

/-- THE TIED CARD OF 'millpondlaw05.FieldTexts'. -/
def fieldTextsCard : Claim7 := { stood := { row := fieldTextsRow, standIns := [], harness := (true, "92636672959f93b42bd448492b9353c81d3b5f7242738c28ec5668be47af751e"), looks := false }, kinds := [], alts := [], laidByText := true, laidKinds := [.data], laidTests := true, laidLooks := .later }
def FieldTextsCardSaid : Prop := Claim7.holds Tryd.pinned (.plain (OpenSpec.ofChange fieldTextsSpec)) fieldTextsCard

/-- THE TIED CARD OF 'millpondlaw06.TagsLaid'. -/
def tagsLaidCard : Claim7 := { stood := { row := tagsLaidRow, standIns := [], harness := (true, "92636672959f93b42bd448492b9353c81d3b5f7242738c28ec5668be47af751e"), looks := false }, kinds := [], alts := [], laidByText := true, laidKinds := [.data], laidTests := true, laidLooks := .later }
def TagsLaidCardSaid : Prop := Claim7.holds Tryd.pinned (.plain (OpenSpec.ofChange tagsLaidSpec)) tagsLaidCard

/-- THE TIED CARD OF 'millpondlaw21.CleanTurns'. -/
def cleanTurnsCard : Claim7 := { stood := { row := cleanTurnsRow, standIns := [], harness := (true, "92636672959f93b42bd448492b9353c81d3b5f7242738c28ec5668be47af751e"), looks := false }, kinds := [], alts := [], laidByText := true, laidKinds := [.data], laidTests := true, laidLooks := .later }
def CleanTurnsCardSaid : Prop := Claim7.holds Tryd.pinned (.plain (OpenSpec.ofChange cleanTurnsSpec)) cleanTurnsCard

/-- THE TIED CARD OF 'millpondlaw11.BinsTurn'. -/
def binsTurnCard : Claim7 := { stood := { row := binsTurnRow, standIns := [], harness := (true, "92636672959f93b42bd448492b9353c81d3b5f7242738c28ec5668be47af751e"), looks := false }, kinds := [], alts := [], laidByText := true, laidKinds := [.data], laidTests := true, laidLooks := .later }
def BinsTurnCardSaid : Prop := Claim7.holds Tryd.pinned (.plain (OpenSpec.ofChange binsTurnSpec)) binsTurnCard

/-- THE TIED CARD OF 'millpondlaw17.HandleMoves'. -/
def handleMovesCard : Claim7 := { stood := { row := handleMovesRow, standIns := [], harness := (true, "92636672959f93b42bd448492b9353c81d3b5f7242738c28ec5668be47af751e"), looks := false }, kinds := [], alts := [], laidByText := true, laidKinds := [.data], laidTests := true, laidLooks := .later }
def HandleMovesCardSaid : Prop := Claim7.holds Tryd.pinned (.plain (OpenSpec.ofChange handleMovesSpec)) handleMovesCard

/-- THE TIED CARD OF 'millpondlaw17.HandleNever'. -/
def handleNeverCard : Claim7 := { stood := { row := handleNeverRow, standIns := [], harness := (true, "92636672959f93b42bd448492b9353c81d3b5f7242738c28ec5668be47af751e"), looks := false }, kinds := [], alts := [], laidByText := true, laidKinds := [.data], laidTests := true, laidLooks := .later }
def HandleNeverCardSaid : Prop := Claim7.holds Tryd.pinned (.plain (OpenSpec.ofChange handleNeverSpec)) handleNeverCard

/-- THE SECOND FORM's CARD OF 'millpondlaw05.FieldTexts'. -/
def fieldTextsUptoCard : Claim7 := { stood := { row := fieldTextsUptoRow, standIns := [], harness := (true, "92636672959f93b42bd448492b9353c81d3b5f7242738c28ec5668be47af751e"), looks := false }, kinds := [], alts := [], laidByText := true, laidKinds := [.data], laidTests := true, laidLooks := .later }
def FieldTextsUptoCardSaid : Prop := Claim7.holds Tryd.pinned (.plain (OpenSpec.upto fieldTextsSpec)) fieldTextsUptoCard

/-- THE SECOND FORM's CARD OF 'millpondlaw06.TagsLaid'. -/
def tagsLaidUptoCard : Claim7 := { stood := { row := tagsLaidUptoRow, standIns := [], harness := (true, "92636672959f93b42bd448492b9353c81d3b5f7242738c28ec5668be47af751e"), looks := false }, kinds := [], alts := [], laidByText := true, laidKinds := [.data], laidTests := true, laidLooks := .later }
def TagsLaidUptoCardSaid : Prop := Claim7.holds Tryd.pinned (.plain (OpenSpec.upto tagsLaidSpec)) tagsLaidUptoCard

/-- THE SECOND FORM's CARD OF 'millpondlaw21.CleanTurns'. -/
def cleanTurnsUptoCard : Claim7 := { stood := { row := cleanTurnsUptoRow, standIns := [], harness := (true, "92636672959f93b42bd448492b9353c81d3b5f7242738c28ec5668be47af751e"), looks := false }, kinds := [], alts := [], laidByText := true, laidKinds := [.data], laidTests := true, laidLooks := .later }
def CleanTurnsUptoCardSaid : Prop := Claim7.holds Tryd.pinned (.plain (OpenSpec.upto cleanTurnsSpec)) cleanTurnsUptoCard

/-- THE SECOND FORM's CARD OF 'millpondlaw11.BinsTurn'. -/
def binsTurnUptoCard : Claim7 := { stood := { row := binsTurnUptoRow, standIns := [], harness := (true, "92636672959f93b42bd448492b9353c81d3b5f7242738c28ec5668be47af751e"), looks := false }, kinds := [], alts := [], laidByText := true, laidKinds := [.data], laidTests := true, laidLooks := .later }
def BinsTurnUptoCardSaid : Prop := Claim7.holds Tryd.pinned (.plain (OpenSpec.upto binsTurnSpec)) binsTurnUptoCard

/-- THE SECOND FORM's CARD OF 'millpondlaw17.HandleMoves'. -/
def handleMovesUptoCard : Claim7 := { stood := { row := handleMovesUptoRow, standIns := [], harness := (true, "92636672959f93b42bd448492b9353c81d3b5f7242738c28ec5668be47af751e"), looks := false }, kinds := [], alts := [], laidByText := true, laidKinds := [.data], laidTests := true, laidLooks := .later }
def HandleMovesUptoCardSaid : Prop := Claim7.holds Tryd.pinned (.plain (OpenSpec.upto handleMovesSpec)) handleMovesUptoCard

/-- THE SECOND FORM's CARD OF 'millpondlaw17.HandleNever'. -/
def handleNeverUptoCard : Claim7 := { stood := { row := handleNeverUptoRow, standIns := [], harness := (true, "92636672959f93b42bd448492b9353c81d3b5f7242738c28ec5668be47af751e"), looks := false }, kinds := [], alts := [], laidByText := true, laidKinds := [.data], laidTests := true, laidLooks := .later }
def HandleNeverUptoCardSaid : Prop := Claim7.holds Tryd.pinned (.plain (OpenSpec.upto handleNeverSpec)) handleNeverUptoCard
end Rows
end Go.Proofs.YtefffenljiaioaaDoor
