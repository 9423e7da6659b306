/-
  DERIVED. GIVEN WITH THE SEED: THE CARDS: each row of YtnbkafnikpbmbaaDoorRows.lean that lists a variable, with what it lists TIED to the program's text (the seventh form; the later family's looks); each row that meets fmt, with fmt's text TOLD by the authors' own Lean function (tested against real Go, not proved from fmt's source: count such statements apart). THE CARD IS WHAT COUNTS. Prove the row's statement (the work); the ties are given (YtnbkafnikpbmbaaDoorTie.lean); close each card by the builder's one call (the guide's Derived/Test/ToyasCard.lean, 'card_holds'). Laid BY PROGRAM, IN A SANDBOX (cutbox-door.mjs). By AI agents, Wed Nov 11 2026. No macro, syntax, notation, axiom, sorry.
-/
import Derived.Test.YtnbkafnikpbmbaaDoorRows
import GoSem.ClaimSeven
namespace Go.Proofs.YtnbkafnikpbmbaaDoor
namespace Rows

/-- THE TIED CARD OF 'millpondlaw02.BitsRows'. -/
def bitsRowsCard : Claim7 := { stood := { row := bitsRowsRow, standIns := [], harness := (true, "c185ada48b0eb89a6bb015bb53356ff6f69e5ef918af0720dddb36135b71cfa4"), looks := false }, kinds := [], alts := [], laidByText := true, laidKinds := [.data], laidTests := true, laidLooks := .later }
def BitsRowsCardSaid : Prop := Claim7.holds Tryd.pinned (.plain (OpenSpec.ofChange bitsRowsSpec)) bitsRowsCard

/-- THE TIED CARD OF 'millpondlaw02.BitsPlay'. -/
def bitsPlayCard : Claim7 := { stood := { row := bitsPlayRow, standIns := [], harness := (true, "c185ada48b0eb89a6bb015bb53356ff6f69e5ef918af0720dddb36135b71cfa4"), looks := false }, kinds := [], alts := [], laidByText := true, laidKinds := [.data], laidTests := true, laidLooks := .later }
def BitsPlayCardSaid : Prop := Claim7.holds Tryd.pinned (.plain (OpenSpec.ofChange bitsPlaySpec)) bitsPlayCard

/-- THE TIED CARD OF 'millpondlaw03.ArenaPlays'. -/
def arenaPlaysCard : Claim7 := { stood := { row := arenaPlaysRow, standIns := [], harness := (true, "c185ada48b0eb89a6bb015bb53356ff6f69e5ef918af0720dddb36135b71cfa4"), looks := false }, kinds := [], alts := [], laidByText := true, laidKinds := [.data], laidTests := true, laidLooks := .later }
def ArenaPlaysCardSaid : Prop := Claim7.holds Tryd.pinned (.plain (OpenSpec.ofChange arenaPlaysSpec)) arenaPlaysCard

/-- THE TIED CARD OF 'millpondlaw17.HandleNever'. -/
def handleNeverCard : Claim7 := { stood := { row := handleNeverRow, standIns := [], harness := (true, "c185ada48b0eb89a6bb015bb53356ff6f69e5ef918af0720dddb36135b71cfa4"), looks := false }, kinds := [], alts := [], laidByText := true, laidKinds := [.data], laidTests := true, laidLooks := .later }
def HandleNeverCardSaid : Prop := Claim7.holds Tryd.pinned (.plain (OpenSpec.ofChange handleNeverSpec)) handleNeverCard

/-- THE TIED CARD OF 'millpondlaw07.ListPlays'. -/
def listPlaysCard : Claim7 := { stood := { row := listPlaysRow, standIns := [], harness := (true, "c185ada48b0eb89a6bb015bb53356ff6f69e5ef918af0720dddb36135b71cfa4"), looks := false }, kinds := [], alts := [], laidByText := true, laidKinds := [.data], laidTests := true, laidLooks := .later }
def ListPlaysCardSaid : Prop := Claim7.holds Tryd.pinned (.plain (OpenSpec.ofChange listPlaysSpec)) listPlaysCard

/-- THE TIED CARD OF 'millpondlaw04.ViewApart'. -/
def viewApartCard : Claim7 := { stood := { row := viewApartRow, standIns := [], harness := (true, "c185ada48b0eb89a6bb015bb53356ff6f69e5ef918af0720dddb36135b71cfa4"), looks := false }, kinds := [], alts := [], laidByText := true, laidKinds := [.data], laidTests := true, laidLooks := .later }
def ViewApartCardSaid : Prop := Claim7.holds Tryd.pinned (.plain (OpenSpec.ofChange viewApartSpec)) viewApartCard

/-- THE TIED CARD OF 'millpondlaw04.ViewPlays'. -/
def viewPlaysCard : Claim7 := { stood := { row := viewPlaysRow, standIns := [], harness := (true, "c185ada48b0eb89a6bb015bb53356ff6f69e5ef918af0720dddb36135b71cfa4"), looks := false }, kinds := [], alts := [], laidByText := true, laidKinds := [.data], laidTests := true, laidLooks := .later }
def ViewPlaysCardSaid : Prop := Claim7.holds Tryd.pinned (.plain (OpenSpec.ofChange viewPlaysSpec)) viewPlaysCard

/-- THE TIED CARD OF 'millpondlaw22.DataTells'. -/
def dataTellsCard : Claim7 := { stood := { row := dataTellsRow, standIns := [], harness := (true, "c185ada48b0eb89a6bb015bb53356ff6f69e5ef918af0720dddb36135b71cfa4"), looks := false }, kinds := [], alts := [], laidByText := true, laidKinds := [.data], laidTests := true, laidLooks := .later }
def DataTellsCardSaid : Prop := Claim7.holds Tryd.pinned (.plain (OpenSpec.ofChange dataTellsSpec)) dataTellsCard

/-- THE TIED CARD OF 'millpondlaw22.DataOrder'. -/
def dataOrderCard : Claim7 := { stood := { row := dataOrderRow, standIns := [], harness := (true, "c185ada48b0eb89a6bb015bb53356ff6f69e5ef918af0720dddb36135b71cfa4"), looks := false }, kinds := [], alts := [], laidByText := true, laidKinds := [.data], laidTests := true, laidLooks := .later }
def DataOrderCardSaid : Prop := Claim7.holds Tryd.pinned (.plain (OpenSpec.ofChange dataOrderSpec)) dataOrderCard

/-- THE TIED CARD OF 'millpondlaw11.BinsPlay'. -/
def binsPlayCard : Claim7 := { stood := { row := binsPlayRow, standIns := [], harness := (true, "c185ada48b0eb89a6bb015bb53356ff6f69e5ef918af0720dddb36135b71cfa4"), looks := false }, kinds := [], alts := [], laidByText := true, laidKinds := [.data], laidTests := true, laidLooks := .later }
def BinsPlayCardSaid : Prop := Claim7.holds Tryd.pinned (.plain (OpenSpec.ofChange binsPlaySpec)) binsPlayCard

/-- THE SECOND FORM's CARD OF 'millpondlaw02.BitsRows'. -/
def bitsRowsUptoCard : Claim7 := { stood := { row := bitsRowsUptoRow, standIns := [], harness := (true, "c185ada48b0eb89a6bb015bb53356ff6f69e5ef918af0720dddb36135b71cfa4"), looks := false }, kinds := [], alts := [], laidByText := true, laidKinds := [.data], laidTests := true, laidLooks := .later }
def BitsRowsUptoCardSaid : Prop := Claim7.holds Tryd.pinned (.plain (OpenSpec.upto bitsRowsSpec)) bitsRowsUptoCard

/-- THE SECOND FORM's CARD OF 'millpondlaw02.BitsPlay'. -/
def bitsPlayUptoCard : Claim7 := { stood := { row := bitsPlayUptoRow, standIns := [], harness := (true, "c185ada48b0eb89a6bb015bb53356ff6f69e5ef918af0720dddb36135b71cfa4"), looks := false }, kinds := [], alts := [], laidByText := true, laidKinds := [.data], laidTests := true, laidLooks := .later }
def BitsPlayUptoCardSaid : Prop := Claim7.holds Tryd.pinned (.plain (OpenSpec.upto bitsPlaySpec)) bitsPlayUptoCard

/-- THE SECOND FORM's CARD OF 'millpondlaw03.ArenaPlays'. -/
def arenaPlaysUptoCard : Claim7 := { stood := { row := arenaPlaysUptoRow, standIns := [], harness := (true, "c185ada48b0eb89a6bb015bb53356ff6f69e5ef918af0720dddb36135b71cfa4"), looks := false }, kinds := [], alts := [], laidByText := true, laidKinds := [.data], laidTests := true, laidLooks := .later }
def ArenaPlaysUptoCardSaid : Prop := Claim7.holds Tryd.pinned (.plain (OpenSpec.upto arenaPlaysSpec)) arenaPlaysUptoCard

/-- THE SECOND FORM's CARD OF 'millpondlaw17.HandleNever'. -/
def handleNeverUptoCard : Claim7 := { stood := { row := handleNeverUptoRow, standIns := [], harness := (true, "c185ada48b0eb89a6bb015bb53356ff6f69e5ef918af0720dddb36135b71cfa4"), looks := false }, kinds := [], alts := [], laidByText := true, laidKinds := [.data], laidTests := true, laidLooks := .later }
def HandleNeverUptoCardSaid : Prop := Claim7.holds Tryd.pinned (.plain (OpenSpec.upto handleNeverSpec)) handleNeverUptoCard

/-- THE SECOND FORM's CARD OF 'millpondlaw07.ListPlays'. -/
def listPlaysUptoCard : Claim7 := { stood := { row := listPlaysUptoRow, standIns := [], harness := (true, "c185ada48b0eb89a6bb015bb53356ff6f69e5ef918af0720dddb36135b71cfa4"), looks := false }, kinds := [], alts := [], laidByText := true, laidKinds := [.data], laidTests := true, laidLooks := .later }
def ListPlaysUptoCardSaid : Prop := Claim7.holds Tryd.pinned (.plain (OpenSpec.upto listPlaysSpec)) listPlaysUptoCard

/-- THE SECOND FORM's CARD OF 'millpondlaw04.ViewApart'. -/
def viewApartUptoCard : Claim7 := { stood := { row := viewApartUptoRow, standIns := [], harness := (true, "c185ada48b0eb89a6bb015bb53356ff6f69e5ef918af0720dddb36135b71cfa4"), looks := false }, kinds := [], alts := [], laidByText := true, laidKinds := [.data], laidTests := true, laidLooks := .later }
def ViewApartUptoCardSaid : Prop := Claim7.holds Tryd.pinned (.plain (OpenSpec.upto viewApartSpec)) viewApartUptoCard

/-- THE SECOND FORM's CARD OF 'millpondlaw04.ViewPlays'. -/
def viewPlaysUptoCard : Claim7 := { stood := { row := viewPlaysUptoRow, standIns := [], harness := (true, "c185ada48b0eb89a6bb015bb53356ff6f69e5ef918af0720dddb36135b71cfa4"), looks := false }, kinds := [], alts := [], laidByText := true, laidKinds := [.data], laidTests := true, laidLooks := .later }
def ViewPlaysUptoCardSaid : Prop := Claim7.holds Tryd.pinned (.plain (OpenSpec.upto viewPlaysSpec)) viewPlaysUptoCard

/-- THE SECOND FORM's CARD OF 'millpondlaw22.DataTells'. -/
def dataTellsUptoCard : Claim7 := { stood := { row := dataTellsUptoRow, standIns := [], harness := (true, "c185ada48b0eb89a6bb015bb53356ff6f69e5ef918af0720dddb36135b71cfa4"), looks := false }, kinds := [], alts := [], laidByText := true, laidKinds := [.data], laidTests := true, laidLooks := .later }
def DataTellsUptoCardSaid : Prop := Claim7.holds Tryd.pinned (.plain (OpenSpec.upto dataTellsSpec)) dataTellsUptoCard

/-- THE SECOND FORM's CARD OF 'millpondlaw22.DataOrder'. -/
def dataOrderUptoCard : Claim7 := { stood := { row := dataOrderUptoRow, standIns := [], harness := (true, "c185ada48b0eb89a6bb015bb53356ff6f69e5ef918af0720dddb36135b71cfa4"), looks := false }, kinds := [], alts := [], laidByText := true, laidKinds := [.data], laidTests := true, laidLooks := .later }
def DataOrderUptoCardSaid : Prop := Claim7.holds Tryd.pinned (.plain (OpenSpec.upto dataOrderSpec)) dataOrderUptoCard

/-- THE SECOND FORM's CARD OF 'millpondlaw11.BinsPlay'. -/
def binsPlayUptoCard : Claim7 := { stood := { row := binsPlayUptoRow, standIns := [], harness := (true, "c185ada48b0eb89a6bb015bb53356ff6f69e5ef918af0720dddb36135b71cfa4"), looks := false }, kinds := [], alts := [], laidByText := true, laidKinds := [.data], laidTests := true, laidLooks := .later }
def BinsPlayUptoCardSaid : Prop := Claim7.holds Tryd.pinned (.plain (OpenSpec.upto binsPlaySpec)) binsPlayUptoCard
end Rows
end Go.Proofs.YtnbkafnikpbmbaaDoor
