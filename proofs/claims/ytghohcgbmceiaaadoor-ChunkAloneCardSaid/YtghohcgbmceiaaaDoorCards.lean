/-
  DERIVED. GIVEN WITH THE SEED: THE CARDS: each row of YtghohcgbmceiaaaDoorRows.lean that lists a variable, with what it lists TIED to the program's text (the seventh form; the later family's looks); each row that meets fmt, with fmt's text TOLD by the authors' own Lean function (tested against real Go, not proved from fmt's source: count such statements apart). THE CARD IS WHAT COUNTS. Prove the row's statement (the work); the ties are given (YtghohcgbmceiaaaDoorTie.lean); close each card by the builder's one call (the guide's Derived/Test/ToyasCard.lean, 'card_holds'). Laid BY PROGRAM, IN A SANDBOX (cutbox-door.mjs). By AI agents, Wed Nov 11 2026. No macro, syntax, notation, axiom, sorry.
-/
import Derived.Test.YtghohcgbmceiaaaDoorRows
import GoSem.ClaimSeven
namespace Go.Proofs.YtghohcgbmceiaaaDoor
namespace Rows

/-- THE TIED CARD OF 'millpondlaw04.ViewTexts'. -/
def viewTextsCard : Claim7 := { stood := { row := viewTextsRow, standIns := [], harness := (true, "acf5ea34ce473dfa0a0df7601f255754a2d4f64da8d5befa7e9e4b2338f77e97"), looks := false }, kinds := [], alts := [], laidByText := true, laidKinds := [.data], laidTests := true, laidLooks := .later }
def ViewTextsCardSaid : Prop := Claim7.holds Tryd.pinned (.plain (OpenSpec.ofChange viewTextsSpec)) viewTextsCard

/-- THE TIED CARD OF 'millpondlaw04.ViewParts'. -/
def viewPartsCard : Claim7 := { stood := { row := viewPartsRow, standIns := [], harness := (true, "acf5ea34ce473dfa0a0df7601f255754a2d4f64da8d5befa7e9e4b2338f77e97"), looks := false }, kinds := [], alts := [], laidByText := true, laidKinds := [.data], laidTests := true, laidLooks := .later }
def ViewPartsCardSaid : Prop := Claim7.holds Tryd.pinned (.plain (OpenSpec.ofChange viewPartsSpec)) viewPartsCard

/-- THE TIED CARD OF 'millpondlaw05.FieldOf'. -/
def fieldOfCard : Claim7 := { stood := { row := fieldOfRow, standIns := [], harness := (true, "acf5ea34ce473dfa0a0df7601f255754a2d4f64da8d5befa7e9e4b2338f77e97"), looks := false }, kinds := [], alts := [], laidByText := true, laidKinds := [.data], laidTests := true, laidLooks := .later }
def FieldOfCardSaid : Prop := Claim7.holds Tryd.pinned (.plain (OpenSpec.ofChange fieldOfSpec)) fieldOfCard

/-- THE TIED CARD OF 'millpondlaw05.FieldBack'. -/
def fieldBackCard : Claim7 := { stood := { row := fieldBackRow, standIns := [], harness := (true, "acf5ea34ce473dfa0a0df7601f255754a2d4f64da8d5befa7e9e4b2338f77e97"), looks := false }, kinds := [], alts := [], laidByText := true, laidKinds := [.data], laidTests := true, laidLooks := .later }
def FieldBackCardSaid : Prop := Claim7.holds Tryd.pinned (.plain (OpenSpec.ofChange fieldBackSpec)) fieldBackCard

/-- THE TIED CARD OF 'millpondlaw10.ChunkEnds'. -/
def chunkEndsCard : Claim7 := { stood := { row := chunkEndsRow, standIns := [], harness := (true, "acf5ea34ce473dfa0a0df7601f255754a2d4f64da8d5befa7e9e4b2338f77e97"), looks := false }, kinds := [], alts := [], laidByText := true, laidKinds := [.data], laidTests := true, laidLooks := .later }
def ChunkEndsCardSaid : Prop := Claim7.holds Tryd.pinned (.plain (OpenSpec.ofChange chunkEndsSpec)) chunkEndsCard

/-- THE TIED CARD OF 'millpondlaw10.ChunkAlone'. -/
def chunkAloneCard : Claim7 := { stood := { row := chunkAloneRow, standIns := [], harness := (true, "acf5ea34ce473dfa0a0df7601f255754a2d4f64da8d5befa7e9e4b2338f77e97"), looks := false }, kinds := [], alts := [], laidByText := true, laidKinds := [.data], laidTests := true, laidLooks := .later }
def ChunkAloneCardSaid : Prop := Claim7.holds Tryd.pinned (.plain (OpenSpec.ofChange chunkAloneSpec)) chunkAloneCard

/-- THE TIED CARD OF 'millpondlaw14.ObjectFits'. -/
def objectFitsCard : Claim7 := { stood := { row := objectFitsRow, standIns := [], harness := (true, "acf5ea34ce473dfa0a0df7601f255754a2d4f64da8d5befa7e9e4b2338f77e97"), looks := false }, kinds := [], alts := [], laidByText := true, laidKinds := [.data], laidTests := true, laidLooks := .later }
def ObjectFitsCardSaid : Prop := Claim7.holds Tryd.pinned (.plain (OpenSpec.ofChange objectFitsSpec)) objectFitsCard

/-- THE TIED CARD OF 'millpondlaw14.ObjectNeeds'. -/
def objectNeedsCard : Claim7 := { stood := { row := objectNeedsRow, standIns := [], harness := (true, "acf5ea34ce473dfa0a0df7601f255754a2d4f64da8d5befa7e9e4b2338f77e97"), looks := false }, kinds := [], alts := [], laidByText := true, laidKinds := [.data], laidTests := true, laidLooks := .later }
def ObjectNeedsCardSaid : Prop := Claim7.holds Tryd.pinned (.plain (OpenSpec.ofChange objectNeedsSpec)) objectNeedsCard

/-- THE TIED CARD OF 'millpondlaw06.TagsNone'. -/
def tagsNoneCard : Claim7 := { stood := { row := tagsNoneRow, standIns := [], harness := (true, "acf5ea34ce473dfa0a0df7601f255754a2d4f64da8d5befa7e9e4b2338f77e97"), looks := false }, kinds := [], alts := [], laidByText := true, laidKinds := [.data], laidTests := true, laidLooks := .later }
def TagsNoneCardSaid : Prop := Claim7.holds Tryd.pinned (.plain (OpenSpec.ofChange tagsNoneSpec)) tagsNoneCard

/-- THE TIED CARD OF 'millpondlaw17.HandleNone'. -/
def handleNoneCard : Claim7 := { stood := { row := handleNoneRow, standIns := [], harness := (true, "acf5ea34ce473dfa0a0df7601f255754a2d4f64da8d5befa7e9e4b2338f77e97"), looks := false }, kinds := [], alts := [], laidByText := true, laidKinds := [.data], laidTests := true, laidLooks := .later }
def HandleNoneCardSaid : Prop := Claim7.holds Tryd.pinned (.plain (OpenSpec.ofChange handleNoneSpec)) handleNoneCard

/-- THE TIED CARD OF 'millpondlaw21.CleanNone'. -/
def cleanNoneCard : Claim7 := { stood := { row := cleanNoneRow, standIns := [], harness := (true, "acf5ea34ce473dfa0a0df7601f255754a2d4f64da8d5befa7e9e4b2338f77e97"), looks := false }, kinds := [], alts := [], laidByText := true, laidKinds := [.data], laidTests := true, laidLooks := .later }
def CleanNoneCardSaid : Prop := Claim7.holds Tryd.pinned (.plain (OpenSpec.ofChange cleanNoneSpec)) cleanNoneCard

/-- THE TIED CARD OF 'millpondlaw11.BinsNone'. -/
def binsNoneCard : Claim7 := { stood := { row := binsNoneRow, standIns := [], harness := (true, "acf5ea34ce473dfa0a0df7601f255754a2d4f64da8d5befa7e9e4b2338f77e97"), looks := false }, kinds := [], alts := [], laidByText := true, laidKinds := [.data], laidTests := true, laidLooks := .later }
def BinsNoneCardSaid : Prop := Claim7.holds Tryd.pinned (.plain (OpenSpec.ofChange binsNoneSpec)) binsNoneCard

/-- THE SECOND FORM's CARD OF 'millpondlaw04.ViewTexts'. -/
def viewTextsUptoCard : Claim7 := { stood := { row := viewTextsUptoRow, standIns := [], harness := (true, "acf5ea34ce473dfa0a0df7601f255754a2d4f64da8d5befa7e9e4b2338f77e97"), looks := false }, kinds := [], alts := [], laidByText := true, laidKinds := [.data], laidTests := true, laidLooks := .later }
def ViewTextsUptoCardSaid : Prop := Claim7.holds Tryd.pinned (.plain (OpenSpec.upto viewTextsSpec)) viewTextsUptoCard

/-- THE SECOND FORM's CARD OF 'millpondlaw04.ViewParts'. -/
def viewPartsUptoCard : Claim7 := { stood := { row := viewPartsUptoRow, standIns := [], harness := (true, "acf5ea34ce473dfa0a0df7601f255754a2d4f64da8d5befa7e9e4b2338f77e97"), looks := false }, kinds := [], alts := [], laidByText := true, laidKinds := [.data], laidTests := true, laidLooks := .later }
def ViewPartsUptoCardSaid : Prop := Claim7.holds Tryd.pinned (.plain (OpenSpec.upto viewPartsSpec)) viewPartsUptoCard

/-- THE SECOND FORM's CARD OF 'millpondlaw05.FieldOf'. -/
def fieldOfUptoCard : Claim7 := { stood := { row := fieldOfUptoRow, standIns := [], harness := (true, "acf5ea34ce473dfa0a0df7601f255754a2d4f64da8d5befa7e9e4b2338f77e97"), looks := false }, kinds := [], alts := [], laidByText := true, laidKinds := [.data], laidTests := true, laidLooks := .later }
def FieldOfUptoCardSaid : Prop := Claim7.holds Tryd.pinned (.plain (OpenSpec.upto fieldOfSpec)) fieldOfUptoCard

/-- THE SECOND FORM's CARD OF 'millpondlaw05.FieldBack'. -/
def fieldBackUptoCard : Claim7 := { stood := { row := fieldBackUptoRow, standIns := [], harness := (true, "acf5ea34ce473dfa0a0df7601f255754a2d4f64da8d5befa7e9e4b2338f77e97"), looks := false }, kinds := [], alts := [], laidByText := true, laidKinds := [.data], laidTests := true, laidLooks := .later }
def FieldBackUptoCardSaid : Prop := Claim7.holds Tryd.pinned (.plain (OpenSpec.upto fieldBackSpec)) fieldBackUptoCard

/-- THE SECOND FORM's CARD OF 'millpondlaw10.ChunkEnds'. -/
def chunkEndsUptoCard : Claim7 := { stood := { row := chunkEndsUptoRow, standIns := [], harness := (true, "acf5ea34ce473dfa0a0df7601f255754a2d4f64da8d5befa7e9e4b2338f77e97"), looks := false }, kinds := [], alts := [], laidByText := true, laidKinds := [.data], laidTests := true, laidLooks := .later }
def ChunkEndsUptoCardSaid : Prop := Claim7.holds Tryd.pinned (.plain (OpenSpec.upto chunkEndsSpec)) chunkEndsUptoCard

/-- THE SECOND FORM's CARD OF 'millpondlaw10.ChunkAlone'. -/
def chunkAloneUptoCard : Claim7 := { stood := { row := chunkAloneUptoRow, standIns := [], harness := (true, "acf5ea34ce473dfa0a0df7601f255754a2d4f64da8d5befa7e9e4b2338f77e97"), looks := false }, kinds := [], alts := [], laidByText := true, laidKinds := [.data], laidTests := true, laidLooks := .later }
def ChunkAloneUptoCardSaid : Prop := Claim7.holds Tryd.pinned (.plain (OpenSpec.upto chunkAloneSpec)) chunkAloneUptoCard

/-- THE SECOND FORM's CARD OF 'millpondlaw14.ObjectFits'. -/
def objectFitsUptoCard : Claim7 := { stood := { row := objectFitsUptoRow, standIns := [], harness := (true, "acf5ea34ce473dfa0a0df7601f255754a2d4f64da8d5befa7e9e4b2338f77e97"), looks := false }, kinds := [], alts := [], laidByText := true, laidKinds := [.data], laidTests := true, laidLooks := .later }
def ObjectFitsUptoCardSaid : Prop := Claim7.holds Tryd.pinned (.plain (OpenSpec.upto objectFitsSpec)) objectFitsUptoCard

/-- THE SECOND FORM's CARD OF 'millpondlaw14.ObjectNeeds'. -/
def objectNeedsUptoCard : Claim7 := { stood := { row := objectNeedsUptoRow, standIns := [], harness := (true, "acf5ea34ce473dfa0a0df7601f255754a2d4f64da8d5befa7e9e4b2338f77e97"), looks := false }, kinds := [], alts := [], laidByText := true, laidKinds := [.data], laidTests := true, laidLooks := .later }
def ObjectNeedsUptoCardSaid : Prop := Claim7.holds Tryd.pinned (.plain (OpenSpec.upto objectNeedsSpec)) objectNeedsUptoCard

/-- THE SECOND FORM's CARD OF 'millpondlaw06.TagsNone'. -/
def tagsNoneUptoCard : Claim7 := { stood := { row := tagsNoneUptoRow, standIns := [], harness := (true, "acf5ea34ce473dfa0a0df7601f255754a2d4f64da8d5befa7e9e4b2338f77e97"), looks := false }, kinds := [], alts := [], laidByText := true, laidKinds := [.data], laidTests := true, laidLooks := .later }
def TagsNoneUptoCardSaid : Prop := Claim7.holds Tryd.pinned (.plain (OpenSpec.upto tagsNoneSpec)) tagsNoneUptoCard

/-- THE SECOND FORM's CARD OF 'millpondlaw17.HandleNone'. -/
def handleNoneUptoCard : Claim7 := { stood := { row := handleNoneUptoRow, standIns := [], harness := (true, "acf5ea34ce473dfa0a0df7601f255754a2d4f64da8d5befa7e9e4b2338f77e97"), looks := false }, kinds := [], alts := [], laidByText := true, laidKinds := [.data], laidTests := true, laidLooks := .later }
def HandleNoneUptoCardSaid : Prop := Claim7.holds Tryd.pinned (.plain (OpenSpec.upto handleNoneSpec)) handleNoneUptoCard

/-- THE SECOND FORM's CARD OF 'millpondlaw21.CleanNone'. -/
def cleanNoneUptoCard : Claim7 := { stood := { row := cleanNoneUptoRow, standIns := [], harness := (true, "acf5ea34ce473dfa0a0df7601f255754a2d4f64da8d5befa7e9e4b2338f77e97"), looks := false }, kinds := [], alts := [], laidByText := true, laidKinds := [.data], laidTests := true, laidLooks := .later }
def CleanNoneUptoCardSaid : Prop := Claim7.holds Tryd.pinned (.plain (OpenSpec.upto cleanNoneSpec)) cleanNoneUptoCard

/-- THE SECOND FORM's CARD OF 'millpondlaw11.BinsNone'. -/
def binsNoneUptoCard : Claim7 := { stood := { row := binsNoneUptoRow, standIns := [], harness := (true, "acf5ea34ce473dfa0a0df7601f255754a2d4f64da8d5befa7e9e4b2338f77e97"), looks := false }, kinds := [], alts := [], laidByText := true, laidKinds := [.data], laidTests := true, laidLooks := .later }
def BinsNoneUptoCardSaid : Prop := Claim7.holds Tryd.pinned (.plain (OpenSpec.upto binsNoneSpec)) binsNoneUptoCard
end Rows
end Go.Proofs.YtghohcgbmceiaaaDoor
