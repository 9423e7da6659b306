/-
  NARROWER THAN 'FOR EVERY INPUT', by the rows' own cells (each row's printed sentence says how): FieldTexts: laid · TagsLaid: laid · CleanTurns: laid · BinsTurn: laid · HandleMoves: laid · HandleNever: laid.
  DERIVED. THE GIVEN ROWS OF THIS SEAT. 6 by the template 'for every input the law returns true; each argument reads behind the call as it read before'; 0 by the template 'total and deterministic' (their statements: YtefffenljiaioaaDoorTotals.lean).
  GIVEN WITH THE SEED: the statements are not yours to turn. If you find one false, say at which input.
  Laid BY PROGRAM, IN A SANDBOX (cutbox-rows.mjs): the forced cells as the released guide's own fill.sh prints them over the translation 28d2adde1e664ea7… (all of the seat's roots in one cut). By AI agents, Wed Nov 11 2026. No macro, syntax, notation, axiom, sorry.
-/
import Derived.Test.YtefffenljiaioaaDoorChecked
import GoSem.Claim
import GoSem.ClaimJoined
import GoSem.ClaimMapViews
import Derived.JoinedTies
import Derived.KernelRfl
namespace Go.Proofs.YtefffenljiaioaaDoor
/- THE CELL 'sum', in the pinned program and in every row, IS THE sha256 OF THE DUMP (.gsa) THAT YtefffenljiaioaaDoorProg.lean LOADS. Nothing in Lean hashes anything: it is a label: what it is worth is what the hold of that sum in a sandbox is worth. -/
noncomputable def Tryd.pinned : Pinned := { name := "ytefffenljiaioaadoor", sum := "28d2adde1e664ea7910a5d7c77e371a359edd454e5d2331e41dbc78085eabd3c", checked := Tryd.checked }
namespace Rows
def none {H : Type} : Left H := { results := [], args := [] }

/- WHAT THE LISTED PACKAGE-LEVEL VARIABLES READ AS WHEN THE CALL BEGINS. Each datum BY PROGRAM (the guide's laid-datum.mjs) off the statement by which the dump's own 'gosem.cut.vars' lays the variable. In a bare row this is a premise. The card (YtefffenljiaioaaDoorCards.lean) ties it to the program's text. -/
def laid_math_bits_deBruijn64tab {H : Type} : DataW H := .agg [.lit (.int .u8 0), .lit (.int .u8 1), .lit (.int .u8 56), .lit (.int .u8 2), .lit (.int .u8 57), .lit (.int .u8 49), .lit (.int .u8 28), .lit (.int .u8 3), .lit (.int .u8 61), .lit (.int .u8 58), .lit (.int .u8 42), .lit (.int .u8 50), .lit (.int .u8 38), .lit (.int .u8 29), .lit (.int .u8 17), .lit (.int .u8 4), .lit (.int .u8 62), .lit (.int .u8 47), .lit (.int .u8 59), .lit (.int .u8 36), .lit (.int .u8 45), .lit (.int .u8 43), .lit (.int .u8 51), .lit (.int .u8 22), .lit (.int .u8 53), .lit (.int .u8 39), .lit (.int .u8 33), .lit (.int .u8 30), .lit (.int .u8 24), .lit (.int .u8 18), .lit (.int .u8 12), .lit (.int .u8 5), .lit (.int .u8 63), .lit (.int .u8 55), .lit (.int .u8 48), .lit (.int .u8 27), .lit (.int .u8 60), .lit (.int .u8 41), .lit (.int .u8 37), .lit (.int .u8 16), .lit (.int .u8 46), .lit (.int .u8 35), .lit (.int .u8 44), .lit (.int .u8 21), .lit (.int .u8 52), .lit (.int .u8 32), .lit (.int .u8 23), .lit (.int .u8 11), .lit (.int .u8 54), .lit (.int .u8 26), .lit (.int .u8 40), .lit (.int .u8 15), .lit (.int .u8 34), .lit (.int .u8 20), .lit (.int .u8 31), .lit (.int .u8 10), .lit (.int .u8 25), .lit (.int .u8 14), .lit (.int .u8 19), .lit (.int .u8 9), .lit (.int .u8 13), .lit (.int .u8 8), .lit (.int .u8 7), .lit (.int .u8 6)]

/-- 'millpondlaw05.FieldTexts': WHATEVER THE INPUT: true; the input reads as it did. -/
def fieldTextsSpec : ChangeSpec := { name := "fieldTexts", fn := fun _ => fun
  | [d1, d2, d3, d4] => { results := [.lit (.bool true)], args := [d1, d2, d3, d4] }
  | _ => none }
def fieldTextsRow : OpenClaim := { program := "ytefffenljiaioaadoor", sum := "28d2adde1e664ea7910a5d7c77e371a359edd454e5d2331e41dbc78085eabd3c", func := "millpond/millpondlaw05.FieldTexts", spec := "fieldTexts", inPlace := ["internal/abi.NoEscape", "internal/bytealg.MakeNoZero"], unfollowed := true, recurses := true, named := ["math/bits.deBruijn64tab"], apart := false, laid := [("math/bits.deBruijn64tab", laid_math_bits_deBruijn64tab)] }
def FieldTextsSaid : Prop := fieldTextsRow.holds Tryd.pinned (OpenSpec.ofChange fieldTextsSpec)

/-- ITS FALSE NEIGHBOUR: 'it returns false'. Refute it at one input. -/
def fieldTextsWrong : ChangeSpec := { name := "fieldTexts", fn := fun _ => fun
  | [d1, d2, d3, d4] => { results := [.lit (.bool false)], args := [d1, d2, d3, d4] }
  | _ => none }
def FieldTextsWrongFalsely : Prop := fieldTextsRow.holds Tryd.pinned (OpenSpec.ofChange fieldTextsWrong)

/-- 'millpondlaw06.TagsLaid': WHATEVER THE INPUT: true; the input reads as it did. -/
def tagsLaidSpec : ChangeSpec := { name := "tagsLaid", fn := fun _ => fun
  | [d1, d2, d3] => { results := [.lit (.bool true)], args := [d1, d2, d3] }
  | _ => none }
def tagsLaidRow : OpenClaim := { program := "ytefffenljiaioaadoor", sum := "28d2adde1e664ea7910a5d7c77e371a359edd454e5d2331e41dbc78085eabd3c", func := "millpond/millpondlaw06.TagsLaid", spec := "tagsLaid", inPlace := ["internal/abi.NoEscape", "internal/bytealg.MakeNoZero"], unfollowed := true, recurses := true, named := ["math/bits.deBruijn64tab"], apart := false, laid := [("math/bits.deBruijn64tab", laid_math_bits_deBruijn64tab)] }
def TagsLaidSaid : Prop := tagsLaidRow.holds Tryd.pinned (OpenSpec.ofChange tagsLaidSpec)

/-- ITS FALSE NEIGHBOUR: 'it returns false'. Refute it at one input. -/
def tagsLaidWrong : ChangeSpec := { name := "tagsLaid", fn := fun _ => fun
  | [d1, d2, d3] => { results := [.lit (.bool false)], args := [d1, d2, d3] }
  | _ => none }
def TagsLaidWrongFalsely : Prop := tagsLaidRow.holds Tryd.pinned (OpenSpec.ofChange tagsLaidWrong)

/-- 'millpondlaw21.CleanTurns': WHATEVER THE INPUT: true; the input reads as it did. -/
def cleanTurnsSpec : ChangeSpec := { name := "cleanTurns", fn := fun _ => fun
  | [d1, d2] => { results := [.lit (.bool true)], args := [d1, d2] }
  | _ => none }
def cleanTurnsRow : OpenClaim := { program := "ytefffenljiaioaadoor", sum := "28d2adde1e664ea7910a5d7c77e371a359edd454e5d2331e41dbc78085eabd3c", func := "millpond/millpondlaw21.CleanTurns", spec := "cleanTurns", inPlace := ["internal/abi.NoEscape"], unfollowed := true, recurses := true, named := ["math/bits.deBruijn64tab"], apart := false, laid := [("math/bits.deBruijn64tab", laid_math_bits_deBruijn64tab)] }
def CleanTurnsSaid : Prop := cleanTurnsRow.holds Tryd.pinned (OpenSpec.ofChange cleanTurnsSpec)

/-- ITS FALSE NEIGHBOUR: 'it returns false'. Refute it at one input. -/
def cleanTurnsWrong : ChangeSpec := { name := "cleanTurns", fn := fun _ => fun
  | [d1, d2] => { results := [.lit (.bool false)], args := [d1, d2] }
  | _ => none }
def CleanTurnsWrongFalsely : Prop := cleanTurnsRow.holds Tryd.pinned (OpenSpec.ofChange cleanTurnsWrong)

/-- 'millpondlaw11.BinsTurn': WHATEVER THE INPUT: true; the input reads as it did. -/
def binsTurnSpec : ChangeSpec := { name := "binsTurn", fn := fun _ => fun
  | [d] => { results := [.lit (.bool true)], args := [d] }
  | _ => none }
def binsTurnRow : OpenClaim := { program := "ytefffenljiaioaadoor", sum := "28d2adde1e664ea7910a5d7c77e371a359edd454e5d2331e41dbc78085eabd3c", func := "millpond/millpondlaw11.BinsTurn", spec := "binsTurn", inPlace := ["internal/abi.NoEscape"], unfollowed := true, recurses := true, named := ["math/bits.deBruijn64tab"], apart := false, laid := [("math/bits.deBruijn64tab", laid_math_bits_deBruijn64tab)] }
def BinsTurnSaid : Prop := binsTurnRow.holds Tryd.pinned (OpenSpec.ofChange binsTurnSpec)

/-- ITS FALSE NEIGHBOUR: 'it returns false'. Refute it at one input. -/
def binsTurnWrong : ChangeSpec := { name := "binsTurn", fn := fun _ => fun
  | [d] => { results := [.lit (.bool false)], args := [d] }
  | _ => none }
def BinsTurnWrongFalsely : Prop := binsTurnRow.holds Tryd.pinned (OpenSpec.ofChange binsTurnWrong)

/-- 'millpondlaw17.HandleMoves': WHATEVER THE INPUT: true; the input reads as it did. -/
def handleMovesSpec : ChangeSpec := { name := "handleMoves", fn := fun _ => fun
  | [d1, d2, d3] => { results := [.lit (.bool true)], args := [d1, d2, d3] }
  | _ => none }
def handleMovesRow : OpenClaim := { program := "ytefffenljiaioaadoor", sum := "28d2adde1e664ea7910a5d7c77e371a359edd454e5d2331e41dbc78085eabd3c", func := "millpond/millpondlaw17.HandleMoves", spec := "handleMoves", inPlace := ["internal/abi.NoEscape"], unfollowed := true, recurses := true, named := ["math/bits.deBruijn64tab"], apart := false, laid := [("math/bits.deBruijn64tab", laid_math_bits_deBruijn64tab)] }
def HandleMovesSaid : Prop := handleMovesRow.holds Tryd.pinned (OpenSpec.ofChange handleMovesSpec)

/-- ITS FALSE NEIGHBOUR: 'it returns false'. Refute it at one input. -/
def handleMovesWrong : ChangeSpec := { name := "handleMoves", fn := fun _ => fun
  | [d1, d2, d3] => { results := [.lit (.bool false)], args := [d1, d2, d3] }
  | _ => none }
def HandleMovesWrongFalsely : Prop := handleMovesRow.holds Tryd.pinned (OpenSpec.ofChange handleMovesWrong)

/-- 'millpondlaw17.HandleNever': WHATEVER THE INPUT: true; the input reads as it did. -/
def handleNeverSpec : ChangeSpec := { name := "handleNever", fn := fun _ => fun
  | [d] => { results := [.lit (.bool true)], args := [d] }
  | _ => none }
def handleNeverRow : OpenClaim := { program := "ytefffenljiaioaadoor", sum := "28d2adde1e664ea7910a5d7c77e371a359edd454e5d2331e41dbc78085eabd3c", func := "millpond/millpondlaw17.HandleNever", spec := "handleNever", inPlace := ["internal/abi.NoEscape"], unfollowed := true, recurses := true, named := ["math/bits.deBruijn64tab"], apart := false, laid := [("math/bits.deBruijn64tab", laid_math_bits_deBruijn64tab)] }
def HandleNeverSaid : Prop := handleNeverRow.holds Tryd.pinned (OpenSpec.ofChange handleNeverSpec)

/-- ITS FALSE NEIGHBOUR: 'it returns false'. Refute it at one input. -/
def handleNeverWrong : ChangeSpec := { name := "handleNever", fn := fun _ => fun
  | [d] => { results := [.lit (.bool false)], args := [d] }
  | _ => none }
def HandleNeverWrongFalsely : Prop := handleNeverRow.holds Tryd.pinned (OpenSpec.ofChange handleNeverWrong)

/- THE SECOND FORM. 'bulk': how many values and letters a reading holds, each counted each time it is reached (what is shared counts as often as it is met; a slice's spare places count too). A statement '..UptoSaid' is the law's where the arguments, and the package variables that the reading takes, are together of bulk at most 1048576: NARROWER than '..Said'. Prove '..Said' where nothing that the law and all that it calls make is longer than what came in: it says more and counts as full. Else prove '..UptoSaid'. A law counts once. -/
mutual
def uptoBulk {H : Type} : DataW H → Nat
  | .lit (.string bytes) => bytes.length + 1
  | .lit _ => 1
  | .nil => 1
  | .ptr d => uptoBulk d + 1
  | .slice elems spare => uptoBulkAll elems + uptoBulkAll spare + 1
  | .agg parts => uptoBulkAll parts + 1
  | .iface _ d => uptoBulk d + 1
  | .map entries => uptoBulkEntries entries + 1
  | .held _ => 1
def uptoBulkAll {H : Type} : List (DataW H) → Nat
  | [] => 0
  | d :: r => uptoBulk d + uptoBulkAll r
def uptoBulkEntries {H : Type} : List (Lit × DataW H) → Nat
  | [] => 0
  | x :: r => uptoBulkEntry x + uptoBulkEntries r
def uptoBulkEntry {H : Type} : Lit × DataW H → Nat
  | (.string bytes, d) => bytes.length + uptoBulk d + 1
  | (_, d) => uptoBulk d + 1
 end
def uptoSmall : (H : Type) → List (DataW H) → Bool := fun _ ds => decide (uptoBulkAll ds ≤ 1048576)
def OpenSpec.upto (s : _root_.Go.ChangeSpec) : _root_.Go.OpenSpec := { _root_.Go.OpenSpec.ofChange s with cond := some uptoSmall }

/-- 'millpondlaw05.FieldTexts', WHERE WHAT IT READS IS OF BULK AT MOST 1048576: true; the input reads as it did. -/
def fieldTextsUptoRow : OpenClaim := { program := "ytefffenljiaioaadoor", sum := "28d2adde1e664ea7910a5d7c77e371a359edd454e5d2331e41dbc78085eabd3c", func := "millpond/millpondlaw05.FieldTexts", spec := "fieldTexts", inPlace := ["internal/abi.NoEscape", "internal/bytealg.MakeNoZero"], unfollowed := true, recurses := true, named := ["math/bits.deBruijn64tab"], apart := false, laid := [("math/bits.deBruijn64tab", laid_math_bits_deBruijn64tab)], narrowed := true }
def FieldTextsUptoSaid : Prop := fieldTextsUptoRow.holds Tryd.pinned (OpenSpec.upto fieldTextsSpec)

/-- 'millpondlaw06.TagsLaid', WHERE WHAT IT READS IS OF BULK AT MOST 1048576: true; the input reads as it did. -/
def tagsLaidUptoRow : OpenClaim := { program := "ytefffenljiaioaadoor", sum := "28d2adde1e664ea7910a5d7c77e371a359edd454e5d2331e41dbc78085eabd3c", func := "millpond/millpondlaw06.TagsLaid", spec := "tagsLaid", inPlace := ["internal/abi.NoEscape", "internal/bytealg.MakeNoZero"], unfollowed := true, recurses := true, named := ["math/bits.deBruijn64tab"], apart := false, laid := [("math/bits.deBruijn64tab", laid_math_bits_deBruijn64tab)], narrowed := true }
def TagsLaidUptoSaid : Prop := tagsLaidUptoRow.holds Tryd.pinned (OpenSpec.upto tagsLaidSpec)

/-- 'millpondlaw21.CleanTurns', WHERE WHAT IT READS IS OF BULK AT MOST 1048576: true; the input reads as it did. -/
def cleanTurnsUptoRow : OpenClaim := { program := "ytefffenljiaioaadoor", sum := "28d2adde1e664ea7910a5d7c77e371a359edd454e5d2331e41dbc78085eabd3c", func := "millpond/millpondlaw21.CleanTurns", spec := "cleanTurns", inPlace := ["internal/abi.NoEscape"], unfollowed := true, recurses := true, named := ["math/bits.deBruijn64tab"], apart := false, laid := [("math/bits.deBruijn64tab", laid_math_bits_deBruijn64tab)], narrowed := true }
def CleanTurnsUptoSaid : Prop := cleanTurnsUptoRow.holds Tryd.pinned (OpenSpec.upto cleanTurnsSpec)

/-- 'millpondlaw11.BinsTurn', WHERE WHAT IT READS IS OF BULK AT MOST 1048576: true; the input reads as it did. -/
def binsTurnUptoRow : OpenClaim := { program := "ytefffenljiaioaadoor", sum := "28d2adde1e664ea7910a5d7c77e371a359edd454e5d2331e41dbc78085eabd3c", func := "millpond/millpondlaw11.BinsTurn", spec := "binsTurn", inPlace := ["internal/abi.NoEscape"], unfollowed := true, recurses := true, named := ["math/bits.deBruijn64tab"], apart := false, laid := [("math/bits.deBruijn64tab", laid_math_bits_deBruijn64tab)], narrowed := true }
def BinsTurnUptoSaid : Prop := binsTurnUptoRow.holds Tryd.pinned (OpenSpec.upto binsTurnSpec)

/-- 'millpondlaw17.HandleMoves', WHERE WHAT IT READS IS OF BULK AT MOST 1048576: true; the input reads as it did. -/
def handleMovesUptoRow : OpenClaim := { program := "ytefffenljiaioaadoor", sum := "28d2adde1e664ea7910a5d7c77e371a359edd454e5d2331e41dbc78085eabd3c", func := "millpond/millpondlaw17.HandleMoves", spec := "handleMoves", inPlace := ["internal/abi.NoEscape"], unfollowed := true, recurses := true, named := ["math/bits.deBruijn64tab"], apart := false, laid := [("math/bits.deBruijn64tab", laid_math_bits_deBruijn64tab)], narrowed := true }
def HandleMovesUptoSaid : Prop := handleMovesUptoRow.holds Tryd.pinned (OpenSpec.upto handleMovesSpec)

/-- 'millpondlaw17.HandleNever', WHERE WHAT IT READS IS OF BULK AT MOST 1048576: true; the input reads as it did. -/
def handleNeverUptoRow : OpenClaim := { program := "ytefffenljiaioaadoor", sum := "28d2adde1e664ea7910a5d7c77e371a359edd454e5d2331e41dbc78085eabd3c", func := "millpond/millpondlaw17.HandleNever", spec := "handleNever", inPlace := ["internal/abi.NoEscape"], unfollowed := true, recurses := true, named := ["math/bits.deBruijn64tab"], apart := false, laid := [("math/bits.deBruijn64tab", laid_math_bits_deBruijn64tab)], narrowed := true }
def HandleNeverUptoSaid : Prop := handleNeverUptoRow.holds Tryd.pinned (OpenSpec.upto handleNeverSpec)

end Rows
end Go.Proofs.YtefffenljiaioaaDoor
