/-
  DERIVED. GIVEN WITH THE SEED: THE CARDS: each row of YtdjdgdkkhadkoaaDoorRows.lean that lists a variable, with what it lists TIED to the program's text (the seventh form; the later family's looks); each row that meets fmt, with fmt's text TOLD by the authors' own Lean function (tested against real Go, not proved from fmt's source: count such statements apart). THE CARD IS WHAT COUNTS. Prove the row's statement (the work); the ties are given (YtdjdgdkkhadkoaaDoorTie.lean); close each card by the builder's one call (the guide's Derived/Test/ToyasCard.lean, 'card_holds'). Laid BY PROGRAM, IN A SANDBOX (cutbox-door.mjs). By AI agents, Wed Nov 11 2026. No macro, syntax, notation, axiom, sorry.
-/
import Derived.Test.YtdjdgdkkhadkoaaDoorRows
import GoSem.ClaimSeven
namespace Go.Proofs.YtdjdgdkkhadkoaaDoor
namespace Rows

/-- THE TIED CARD OF 'millpondlaw02.BitsFirst'. -/
def bitsFirstCard : Claim7 := { stood := { row := bitsFirstRow, standIns := [], harness := (true, "320338cf7af3f289132268492dbe801f41e58415f9b20299571a8df0cffcf953"), looks := false }, kinds := [], alts := [], laidByText := true, laidKinds := [.data], laidTests := true, laidLooks := .later }
def BitsFirstCardSaid : Prop := Claim7.holds Tryd.pinned (.plain (OpenSpec.ofChange bitsFirstSpec)) bitsFirstCard

/-- THE TIED CARD OF 'millpondlaw02.BitsParts'. -/
def bitsPartsCard : Claim7 := { stood := { row := bitsPartsRow, standIns := [], harness := (true, "320338cf7af3f289132268492dbe801f41e58415f9b20299571a8df0cffcf953"), looks := false }, kinds := [], alts := [], laidByText := true, laidKinds := [.data], laidTests := true, laidLooks := .later }
def BitsPartsCardSaid : Prop := Claim7.holds Tryd.pinned (.plain (OpenSpec.ofChange bitsPartsSpec)) bitsPartsCard

/-- THE TIED CARD OF 'millpondlaw02.BitsRows'. -/
def bitsRowsCard : Claim7 := { stood := { row := bitsRowsRow, standIns := [], harness := (true, "320338cf7af3f289132268492dbe801f41e58415f9b20299571a8df0cffcf953"), looks := false }, kinds := [], alts := [], laidByText := true, laidKinds := [.data], laidTests := true, laidLooks := .later }
def BitsRowsCardSaid : Prop := Claim7.holds Tryd.pinned (.plain (OpenSpec.ofChange bitsRowsSpec)) bitsRowsCard

/-- THE TIED CARD OF 'millpondlaw02.BitsPlay'. -/
def bitsPlayCard : Claim7 := { stood := { row := bitsPlayRow, standIns := [], harness := (true, "320338cf7af3f289132268492dbe801f41e58415f9b20299571a8df0cffcf953"), looks := false }, kinds := [], alts := [], laidByText := true, laidKinds := [.data], laidTests := true, laidLooks := .later }
def BitsPlayCardSaid : Prop := Claim7.holds Tryd.pinned (.plain (OpenSpec.ofChange bitsPlaySpec)) bitsPlayCard

/-- THE SECOND FORM's CARD OF 'millpondlaw02.BitsFirst'. -/
def bitsFirstUptoCard : Claim7 := { stood := { row := bitsFirstUptoRow, standIns := [], harness := (true, "320338cf7af3f289132268492dbe801f41e58415f9b20299571a8df0cffcf953"), looks := false }, kinds := [], alts := [], laidByText := true, laidKinds := [.data], laidTests := true, laidLooks := .later }
def BitsFirstUptoCardSaid : Prop := Claim7.holds Tryd.pinned (.plain (OpenSpec.upto bitsFirstSpec)) bitsFirstUptoCard

/-- THE SECOND FORM's CARD OF 'millpondlaw02.BitsParts'. -/
def bitsPartsUptoCard : Claim7 := { stood := { row := bitsPartsUptoRow, standIns := [], harness := (true, "320338cf7af3f289132268492dbe801f41e58415f9b20299571a8df0cffcf953"), looks := false }, kinds := [], alts := [], laidByText := true, laidKinds := [.data], laidTests := true, laidLooks := .later }
def BitsPartsUptoCardSaid : Prop := Claim7.holds Tryd.pinned (.plain (OpenSpec.upto bitsPartsSpec)) bitsPartsUptoCard

/-- THE SECOND FORM's CARD OF 'millpondlaw02.BitsRows'. -/
def bitsRowsUptoCard : Claim7 := { stood := { row := bitsRowsUptoRow, standIns := [], harness := (true, "320338cf7af3f289132268492dbe801f41e58415f9b20299571a8df0cffcf953"), looks := false }, kinds := [], alts := [], laidByText := true, laidKinds := [.data], laidTests := true, laidLooks := .later }
def BitsRowsUptoCardSaid : Prop := Claim7.holds Tryd.pinned (.plain (OpenSpec.upto bitsRowsSpec)) bitsRowsUptoCard

/-- THE SECOND FORM's CARD OF 'millpondlaw02.BitsPlay'. -/
def bitsPlayUptoCard : Claim7 := { stood := { row := bitsPlayUptoRow, standIns := [], harness := (true, "320338cf7af3f289132268492dbe801f41e58415f9b20299571a8df0cffcf953"), looks := false }, kinds := [], alts := [], laidByText := true, laidKinds := [.data], laidTests := true, laidLooks := .later }
def BitsPlayUptoCardSaid : Prop := Claim7.holds Tryd.pinned (.plain (OpenSpec.upto bitsPlaySpec)) bitsPlayUptoCard
end Rows
end Go.Proofs.YtdjdgdkkhadkoaaDoor
