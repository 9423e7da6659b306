/-
  NARROWER THAN 'FOR EVERY INPUT', by the rows' own cells (each row's printed sentence says how): BuddyWrong: laid · BuddyBack: laid · BuddyGrows: laid · BuddyApart: laid · BuddyPlays: laid · CensusCounts: laid · CensusTells: laid · CensusGives: laid · CensusStill: laid.
  DERIVED. THE GIVEN ROWS OF THIS SEAT. 9 by the template 'for every input the law returns true; each argument reads behind the call as it read before'; 0 by the template 'total and deterministic' (their statements: YtojjkjedcafpeaaGreatDoorTotals.lean).
  GIVEN WITH THE SEED: the statements are not yours to turn. If you find one false, say at which input.
  Laid BY PROGRAM, IN A SANDBOX (cutbox-rows.mjs): the forced cells as the released guide's own fill.sh prints them over the translation 0dfa30acfffb666a… (all of the seat's roots in one cut). By AI agents, Wed Nov 11 2026. No macro, syntax, notation, axiom, sorry.
-/
import Derived.Test.YtojjkjedcafpeaaGreatDoorChecked
import GoSem.Claim
import GoSem.ClaimJoined
import GoSem.ClaimMapViews
import Derived.JoinedTies
import Derived.KernelRfl
namespace Go.Proofs.YtojjkjedcafpeaaGreatDoor
/- THE CELL 'sum', in the pinned program and in every row, IS THE sha256 OF THE DUMP (.gsa) THAT YtojjkjedcafpeaaGreatDoorProg.lean LOADS. Nothing in Lean hashes anything: it is a label: what it is worth is what the hold of that sum in a sandbox is worth. -/
noncomputable def Tryz.pinned : Pinned := { name := "ytojjkjedcafpeaagreatdoor", sum := "0dfa30acfffb666a45a801195edd4517c96ac069a075a66da6453c55e05dccca", checked := Tryz.checked }
namespace Rows
def none {H : Type} : Left H := { results := [], args := [] }

/- WHAT THE LISTED PACKAGE-LEVEL VARIABLES READ AS WHEN THE CALL BEGINS. Each datum BY PROGRAM (the guide's laid-datum.mjs) off the statement by which the dump's own 'gosem.cut.vars' lays the variable. In a bare row this is a premise. The card (YtojjkjedcafpeaaGreatDoorCards.lean) ties it to the program's text. -/
def laid_math_bits_deBruijn32tab {H : Type} : DataW H := .agg [.lit (.int .u8 0), .lit (.int .u8 1), .lit (.int .u8 28), .lit (.int .u8 2), .lit (.int .u8 29), .lit (.int .u8 14), .lit (.int .u8 24), .lit (.int .u8 3), .lit (.int .u8 30), .lit (.int .u8 22), .lit (.int .u8 20), .lit (.int .u8 15), .lit (.int .u8 25), .lit (.int .u8 17), .lit (.int .u8 4), .lit (.int .u8 8), .lit (.int .u8 31), .lit (.int .u8 27), .lit (.int .u8 13), .lit (.int .u8 23), .lit (.int .u8 21), .lit (.int .u8 19), .lit (.int .u8 16), .lit (.int .u8 7), .lit (.int .u8 26), .lit (.int .u8 12), .lit (.int .u8 18), .lit (.int .u8 6), .lit (.int .u8 11), .lit (.int .u8 5), .lit (.int .u8 10), .lit (.int .u8 9)]
def laid_math_bits_deBruijn64tab {H : Type} : DataW H := .agg [.lit (.int .u8 0), .lit (.int .u8 1), .lit (.int .u8 56), .lit (.int .u8 2), .lit (.int .u8 57), .lit (.int .u8 49), .lit (.int .u8 28), .lit (.int .u8 3), .lit (.int .u8 61), .lit (.int .u8 58), .lit (.int .u8 42), .lit (.int .u8 50), .lit (.int .u8 38), .lit (.int .u8 29), .lit (.int .u8 17), .lit (.int .u8 4), .lit (.int .u8 62), .lit (.int .u8 47), .lit (.int .u8 59), .lit (.int .u8 36), .lit (.int .u8 45), .lit (.int .u8 43), .lit (.int .u8 51), .lit (.int .u8 22), .lit (.int .u8 53), .lit (.int .u8 39), .lit (.int .u8 33), .lit (.int .u8 30), .lit (.int .u8 24), .lit (.int .u8 18), .lit (.int .u8 12), .lit (.int .u8 5), .lit (.int .u8 63), .lit (.int .u8 55), .lit (.int .u8 48), .lit (.int .u8 27), .lit (.int .u8 60), .lit (.int .u8 41), .lit (.int .u8 37), .lit (.int .u8 16), .lit (.int .u8 46), .lit (.int .u8 35), .lit (.int .u8 44), .lit (.int .u8 21), .lit (.int .u8 52), .lit (.int .u8 32), .lit (.int .u8 23), .lit (.int .u8 11), .lit (.int .u8 54), .lit (.int .u8 26), .lit (.int .u8 40), .lit (.int .u8 15), .lit (.int .u8 34), .lit (.int .u8 20), .lit (.int .u8 31), .lit (.int .u8 10), .lit (.int .u8 25), .lit (.int .u8 14), .lit (.int .u8 19), .lit (.int .u8 9), .lit (.int .u8 13), .lit (.int .u8 8), .lit (.int .u8 7), .lit (.int .u8 6)]

/-- 'millpondlaw08.BuddyWrong': WHATEVER THE INPUT: true; the input reads as it did. -/
def buddyWrongSpec : ChangeSpec := { name := "buddyWrong", fn := fun _ => fun
  | [d1, d2] => { results := [.lit (.bool true)], args := [d1, d2] }
  | _ => none }
def buddyWrongRow : OpenClaim := { program := "ytojjkjedcafpeaagreatdoor", sum := "0dfa30acfffb666a45a801195edd4517c96ac069a075a66da6453c55e05dccca", func := "millpond/millpondlaw08.BuddyWrong", spec := "buddyWrong", inPlace := ["internal/abi.NoEscape", "internal/bytealg.MakeNoZero"], unfollowed := true, recurses := true, named := ["math/bits.deBruijn32tab", "math/bits.deBruijn64tab"], apart := false, laid := [("math/bits.deBruijn32tab", laid_math_bits_deBruijn32tab), ("math/bits.deBruijn64tab", laid_math_bits_deBruijn64tab)] }
def BuddyWrongSaid : Prop := buddyWrongRow.holds Tryz.pinned (OpenSpec.ofChange buddyWrongSpec)

/-- ITS FALSE NEIGHBOUR: 'it returns false'. Refute it at one input. -/
def buddyWrongWrong : ChangeSpec := { name := "buddyWrong", fn := fun _ => fun
  | [d1, d2] => { results := [.lit (.bool false)], args := [d1, d2] }
  | _ => none }
def BuddyWrongWrongFalsely : Prop := buddyWrongRow.holds Tryz.pinned (OpenSpec.ofChange buddyWrongWrong)

/-- 'millpondlaw08.BuddyBack': WHATEVER THE INPUT: true; the input reads as it did. -/
def buddyBackSpec : ChangeSpec := { name := "buddyBack", fn := fun _ => fun
  | [d1, d2] => { results := [.lit (.bool true)], args := [d1, d2] }
  | _ => none }
def buddyBackRow : OpenClaim := { program := "ytojjkjedcafpeaagreatdoor", sum := "0dfa30acfffb666a45a801195edd4517c96ac069a075a66da6453c55e05dccca", func := "millpond/millpondlaw08.BuddyBack", spec := "buddyBack", inPlace := ["internal/abi.NoEscape", "internal/bytealg.MakeNoZero"], unfollowed := true, recurses := true, named := ["math/bits.deBruijn32tab", "math/bits.deBruijn64tab"], apart := false, laid := [("math/bits.deBruijn32tab", laid_math_bits_deBruijn32tab), ("math/bits.deBruijn64tab", laid_math_bits_deBruijn64tab)] }
def BuddyBackSaid : Prop := buddyBackRow.holds Tryz.pinned (OpenSpec.ofChange buddyBackSpec)

/-- ITS FALSE NEIGHBOUR: 'it returns false'. Refute it at one input. -/
def buddyBackWrong : ChangeSpec := { name := "buddyBack", fn := fun _ => fun
  | [d1, d2] => { results := [.lit (.bool false)], args := [d1, d2] }
  | _ => none }
def BuddyBackWrongFalsely : Prop := buddyBackRow.holds Tryz.pinned (OpenSpec.ofChange buddyBackWrong)

/-- 'millpondlaw08.BuddyGrows': WHATEVER THE INPUT: true; the input reads as it did. -/
def buddyGrowsSpec : ChangeSpec := { name := "buddyGrows", fn := fun _ => fun
  | [d1, d2, d3] => { results := [.lit (.bool true)], args := [d1, d2, d3] }
  | _ => none }
def buddyGrowsRow : OpenClaim := { program := "ytojjkjedcafpeaagreatdoor", sum := "0dfa30acfffb666a45a801195edd4517c96ac069a075a66da6453c55e05dccca", func := "millpond/millpondlaw08.BuddyGrows", spec := "buddyGrows", inPlace := ["internal/abi.NoEscape", "internal/bytealg.MakeNoZero"], unfollowed := true, recurses := true, named := ["math/bits.deBruijn32tab", "math/bits.deBruijn64tab"], apart := false, laid := [("math/bits.deBruijn32tab", laid_math_bits_deBruijn32tab), ("math/bits.deBruijn64tab", laid_math_bits_deBruijn64tab)] }
def BuddyGrowsSaid : Prop := buddyGrowsRow.holds Tryz.pinned (OpenSpec.ofChange buddyGrowsSpec)

/-- ITS FALSE NEIGHBOUR: 'it returns false'. Refute it at one input. -/
def buddyGrowsWrong : ChangeSpec := { name := "buddyGrows", fn := fun _ => fun
  | [d1, d2, d3] => { results := [.lit (.bool false)], args := [d1, d2, d3] }
  | _ => none }
def BuddyGrowsWrongFalsely : Prop := buddyGrowsRow.holds Tryz.pinned (OpenSpec.ofChange buddyGrowsWrong)

/-- 'millpondlaw08.BuddyApart': WHATEVER THE INPUT: true; the input reads as it did. -/
def buddyApartSpec : ChangeSpec := { name := "buddyApart", fn := fun _ => fun
  | [d1, d2] => { results := [.lit (.bool true)], args := [d1, d2] }
  | _ => none }
def buddyApartRow : OpenClaim := { program := "ytojjkjedcafpeaagreatdoor", sum := "0dfa30acfffb666a45a801195edd4517c96ac069a075a66da6453c55e05dccca", func := "millpond/millpondlaw08.BuddyApart", spec := "buddyApart", inPlace := ["internal/abi.NoEscape", "internal/bytealg.MakeNoZero"], unfollowed := true, recurses := true, named := ["math/bits.deBruijn32tab", "math/bits.deBruijn64tab"], apart := false, laid := [("math/bits.deBruijn32tab", laid_math_bits_deBruijn32tab), ("math/bits.deBruijn64tab", laid_math_bits_deBruijn64tab)] }
def BuddyApartSaid : Prop := buddyApartRow.holds Tryz.pinned (OpenSpec.ofChange buddyApartSpec)

/-- ITS FALSE NEIGHBOUR: 'it returns false'. Refute it at one input. -/
def buddyApartWrong : ChangeSpec := { name := "buddyApart", fn := fun _ => fun
  | [d1, d2] => { results := [.lit (.bool false)], args := [d1, d2] }
  | _ => none }
def BuddyApartWrongFalsely : Prop := buddyApartRow.holds Tryz.pinned (OpenSpec.ofChange buddyApartWrong)

/-- 'millpondlaw08.BuddyPlays': WHATEVER THE INPUT: true; the input reads as it did. -/
def buddyPlaysSpec : ChangeSpec := { name := "buddyPlays", fn := fun _ => fun
  | [d1, d2, d3, d4] => { results := [.lit (.bool true)], args := [d1, d2, d3, d4] }
  | _ => none }
def buddyPlaysRow : OpenClaim := { program := "ytojjkjedcafpeaagreatdoor", sum := "0dfa30acfffb666a45a801195edd4517c96ac069a075a66da6453c55e05dccca", func := "millpond/millpondlaw08.BuddyPlays", spec := "buddyPlays", inPlace := ["internal/abi.NoEscape", "internal/bytealg.MakeNoZero"], unfollowed := true, recurses := true, named := ["math/bits.deBruijn32tab", "math/bits.deBruijn64tab"], apart := false, laid := [("math/bits.deBruijn32tab", laid_math_bits_deBruijn32tab), ("math/bits.deBruijn64tab", laid_math_bits_deBruijn64tab)] }
def BuddyPlaysSaid : Prop := buddyPlaysRow.holds Tryz.pinned (OpenSpec.ofChange buddyPlaysSpec)

/-- ITS FALSE NEIGHBOUR: 'it returns false'. Refute it at one input. -/
def buddyPlaysWrong : ChangeSpec := { name := "buddyPlays", fn := fun _ => fun
  | [d1, d2, d3, d4] => { results := [.lit (.bool false)], args := [d1, d2, d3, d4] }
  | _ => none }
def BuddyPlaysWrongFalsely : Prop := buddyPlaysRow.holds Tryz.pinned (OpenSpec.ofChange buddyPlaysWrong)

/-- 'millpondlaw09.CensusCounts': WHATEVER THE INPUT: true; the input reads as it did. -/
def censusCountsSpec : ChangeSpec := { name := "censusCounts", fn := fun _ => fun
  | [d1, d2] => { results := [.lit (.bool true)], args := [d1, d2] }
  | _ => none }
def censusCountsRow : OpenClaim := { program := "ytojjkjedcafpeaagreatdoor", sum := "0dfa30acfffb666a45a801195edd4517c96ac069a075a66da6453c55e05dccca", func := "millpond/millpondlaw09.CensusCounts", spec := "censusCounts", inPlace := ["internal/abi.NoEscape", "internal/bytealg.MakeNoZero"], unfollowed := true, recurses := true, named := ["math/bits.deBruijn32tab", "math/bits.deBruijn64tab"], apart := false, laid := [("math/bits.deBruijn32tab", laid_math_bits_deBruijn32tab), ("math/bits.deBruijn64tab", laid_math_bits_deBruijn64tab)] }
def CensusCountsSaid : Prop := censusCountsRow.holds Tryz.pinned (OpenSpec.ofChange censusCountsSpec)

/-- ITS FALSE NEIGHBOUR: 'it returns false'. Refute it at one input. -/
def censusCountsWrong : ChangeSpec := { name := "censusCounts", fn := fun _ => fun
  | [d1, d2] => { results := [.lit (.bool false)], args := [d1, d2] }
  | _ => none }
def CensusCountsWrongFalsely : Prop := censusCountsRow.holds Tryz.pinned (OpenSpec.ofChange censusCountsWrong)

/-- 'millpondlaw09.CensusTells': WHATEVER THE INPUT: true; the input reads as it did. -/
def censusTellsSpec : ChangeSpec := { name := "censusTells", fn := fun _ => fun
  | [d1, d2, d3, d4] => { results := [.lit (.bool true)], args := [d1, d2, d3, d4] }
  | _ => none }
def censusTellsRow : OpenClaim := { program := "ytojjkjedcafpeaagreatdoor", sum := "0dfa30acfffb666a45a801195edd4517c96ac069a075a66da6453c55e05dccca", func := "millpond/millpondlaw09.CensusTells", spec := "censusTells", inPlace := ["internal/abi.NoEscape", "internal/bytealg.MakeNoZero"], unfollowed := true, recurses := true, named := ["math/bits.deBruijn32tab", "math/bits.deBruijn64tab"], apart := false, laid := [("math/bits.deBruijn32tab", laid_math_bits_deBruijn32tab), ("math/bits.deBruijn64tab", laid_math_bits_deBruijn64tab)] }
def CensusTellsSaid : Prop := censusTellsRow.holds Tryz.pinned (OpenSpec.ofChange censusTellsSpec)

/-- ITS FALSE NEIGHBOUR: 'it returns false'. Refute it at one input. -/
def censusTellsWrong : ChangeSpec := { name := "censusTells", fn := fun _ => fun
  | [d1, d2, d3, d4] => { results := [.lit (.bool false)], args := [d1, d2, d3, d4] }
  | _ => none }
def CensusTellsWrongFalsely : Prop := censusTellsRow.holds Tryz.pinned (OpenSpec.ofChange censusTellsWrong)

/-- 'millpondlaw09.CensusGives': WHATEVER THE INPUT: true; the input reads as it did. -/
def censusGivesSpec : ChangeSpec := { name := "censusGives", fn := fun _ => fun
  | [d1, d2, d3] => { results := [.lit (.bool true)], args := [d1, d2, d3] }
  | _ => none }
def censusGivesRow : OpenClaim := { program := "ytojjkjedcafpeaagreatdoor", sum := "0dfa30acfffb666a45a801195edd4517c96ac069a075a66da6453c55e05dccca", func := "millpond/millpondlaw09.CensusGives", spec := "censusGives", inPlace := ["internal/abi.NoEscape", "internal/bytealg.MakeNoZero"], unfollowed := true, recurses := true, named := ["math/bits.deBruijn32tab", "math/bits.deBruijn64tab"], apart := false, laid := [("math/bits.deBruijn32tab", laid_math_bits_deBruijn32tab), ("math/bits.deBruijn64tab", laid_math_bits_deBruijn64tab)] }
def CensusGivesSaid : Prop := censusGivesRow.holds Tryz.pinned (OpenSpec.ofChange censusGivesSpec)

/-- ITS FALSE NEIGHBOUR: 'it returns false'. Refute it at one input. -/
def censusGivesWrong : ChangeSpec := { name := "censusGives", fn := fun _ => fun
  | [d1, d2, d3] => { results := [.lit (.bool false)], args := [d1, d2, d3] }
  | _ => none }
def CensusGivesWrongFalsely : Prop := censusGivesRow.holds Tryz.pinned (OpenSpec.ofChange censusGivesWrong)

/-- 'millpondlaw09.CensusStill': WHATEVER THE INPUT: true; the input reads as it did. -/
def censusStillSpec : ChangeSpec := { name := "censusStill", fn := fun _ => fun
  | [d1, d2, d3, d4] => { results := [.lit (.bool true)], args := [d1, d2, d3, d4] }
  | _ => none }
def censusStillRow : OpenClaim := { program := "ytojjkjedcafpeaagreatdoor", sum := "0dfa30acfffb666a45a801195edd4517c96ac069a075a66da6453c55e05dccca", func := "millpond/millpondlaw09.CensusStill", spec := "censusStill", inPlace := ["internal/abi.NoEscape", "internal/bytealg.MakeNoZero"], unfollowed := true, recurses := true, named := ["math/bits.deBruijn32tab", "math/bits.deBruijn64tab"], apart := false, laid := [("math/bits.deBruijn32tab", laid_math_bits_deBruijn32tab), ("math/bits.deBruijn64tab", laid_math_bits_deBruijn64tab)] }
def CensusStillSaid : Prop := censusStillRow.holds Tryz.pinned (OpenSpec.ofChange censusStillSpec)

/-- ITS FALSE NEIGHBOUR: 'it returns false'. Refute it at one input. -/
def censusStillWrong : ChangeSpec := { name := "censusStill", fn := fun _ => fun
  | [d1, d2, d3, d4] => { results := [.lit (.bool false)], args := [d1, d2, d3, d4] }
  | _ => none }
def CensusStillWrongFalsely : Prop := censusStillRow.holds Tryz.pinned (OpenSpec.ofChange censusStillWrong)

/- THE SECOND FORM. 'bulk': how many values and letters a reading holds, each counted each time it is reached (what is shared counts as often as it is met; a slice's spare places count too). A statement '..UptoSaid' is the law's where the arguments, and the package variables that the reading takes, are together of bulk at most 1048576: NARROWER than '..Said'. Prove '..Said' where nothing that the law and all that it calls make is longer than what came in: it says more and counts as full. Else prove '..UptoSaid'. A law counts once. -/
mutual
def uptoBulk {H : Type} : DataW H → Nat
  | .lit (.string bytes) => bytes.length + 1
  | .lit _ => 1
  | .nil => 1
  | .ptr d => uptoBulk d + 1
  | .slice elems spare => uptoBulkAll elems + uptoBulkAll spare + 1
  | .agg parts => uptoBulkAll parts + 1
  | .iface _ d => uptoBulk d + 1
  | .map entries => uptoBulkEntries entries + 1
  | .held _ => 1
def uptoBulkAll {H : Type} : List (DataW H) → Nat
  | [] => 0
  | d :: r => uptoBulk d + uptoBulkAll r
def uptoBulkEntries {H : Type} : List (Lit × DataW H) → Nat
  | [] => 0
  | x :: r => uptoBulkEntry x + uptoBulkEntries r
def uptoBulkEntry {H : Type} : Lit × DataW H → Nat
  | (.string bytes, d) => bytes.length + uptoBulk d + 1
  | (_, d) => uptoBulk d + 1
 end
def uptoSmall : (H : Type) → List (DataW H) → Bool := fun _ ds => decide (uptoBulkAll ds ≤ 1048576)
def OpenSpec.upto (s : _root_.Go.ChangeSpec) : _root_.Go.OpenSpec := { _root_.Go.OpenSpec.ofChange s with cond := some uptoSmall }

/-- 'millpondlaw08.BuddyWrong', WHERE WHAT IT READS IS OF BULK AT MOST 1048576: true; the input reads as it did. -/
def buddyWrongUptoRow : OpenClaim := { program := "ytojjkjedcafpeaagreatdoor", sum := "0dfa30acfffb666a45a801195edd4517c96ac069a075a66da6453c55e05dccca", func := "millpond/millpondlaw08.BuddyWrong", spec := "buddyWrong", inPlace := ["internal/abi.NoEscape", "internal/bytealg.MakeNoZero"], unfollowed := true, recurses := true, named := ["math/bits.deBruijn32tab", "math/bits.deBruijn64tab"], apart := false, laid := [("math/bits.deBruijn32tab", laid_math_bits_deBruijn32tab), ("math/bits.deBruijn64tab", laid_math_bits_deBruijn64tab)], narrowed := true }
def BuddyWrongUptoSaid : Prop := buddyWrongUptoRow.holds Tryz.pinned (OpenSpec.upto buddyWrongSpec)

/-- 'millpondlaw08.BuddyBack', WHERE WHAT IT READS IS OF BULK AT MOST 1048576: true; the input reads as it did. -/
def buddyBackUptoRow : OpenClaim := { program := "ytojjkjedcafpeaagreatdoor", sum := "0dfa30acfffb666a45a801195edd4517c96ac069a075a66da6453c55e05dccca", func := "millpond/millpondlaw08.BuddyBack", spec := "buddyBack", inPlace := ["internal/abi.NoEscape", "internal/bytealg.MakeNoZero"], unfollowed := true, recurses := true, named := ["math/bits.deBruijn32tab", "math/bits.deBruijn64tab"], apart := false, laid := [("math/bits.deBruijn32tab", laid_math_bits_deBruijn32tab), ("math/bits.deBruijn64tab", laid_math_bits_deBruijn64tab)], narrowed := true }
def BuddyBackUptoSaid : Prop := buddyBackUptoRow.holds Tryz.pinned (OpenSpec.upto buddyBackSpec)

/-- 'millpondlaw08.BuddyGrows', WHERE WHAT IT READS IS OF BULK AT MOST 1048576: true; the input reads as it did. -/
def buddyGrowsUptoRow : OpenClaim := { program := "ytojjkjedcafpeaagreatdoor", sum := "0dfa30acfffb666a45a801195edd4517c96ac069a075a66da6453c55e05dccca", func := "millpond/millpondlaw08.BuddyGrows", spec := "buddyGrows", inPlace := ["internal/abi.NoEscape", "internal/bytealg.MakeNoZero"], unfollowed := true, recurses := true, named := ["math/bits.deBruijn32tab", "math/bits.deBruijn64tab"], apart := false, laid := [("math/bits.deBruijn32tab", laid_math_bits_deBruijn32tab), ("math/bits.deBruijn64tab", laid_math_bits_deBruijn64tab)], narrowed := true }
def BuddyGrowsUptoSaid : Prop := buddyGrowsUptoRow.holds Tryz.pinned (OpenSpec.upto buddyGrowsSpec)

/-- 'millpondlaw08.BuddyApart', WHERE WHAT IT READS IS OF BULK AT MOST 1048576: true; the input reads as it did. -/
def buddyApartUptoRow : OpenClaim := { program := "ytojjkjedcafpeaagreatdoor", sum := "0dfa30acfffb666a45a801195edd4517c96ac069a075a66da6453c55e05dccca", func := "millpond/millpondlaw08.BuddyApart", spec := "buddyApart", inPlace := ["internal/abi.NoEscape", "internal/bytealg.MakeNoZero"], unfollowed := true, recurses := true, named := ["math/bits.deBruijn32tab", "math/bits.deBruijn64tab"], apart := false, laid := [("math/bits.deBruijn32tab", laid_math_bits_deBruijn32tab), ("math/bits.deBruijn64tab", laid_math_bits_deBruijn64tab)], narrowed := true }
def BuddyApartUptoSaid : Prop := buddyApartUptoRow.holds Tryz.pinned (OpenSpec.upto buddyApartSpec)

/-- 'millpondlaw08.BuddyPlays', WHERE WHAT IT READS IS OF BULK AT MOST 1048576: true; the input reads as it did. -/
def buddyPlaysUptoRow : OpenClaim := { program := "ytojjkjedcafpeaagreatdoor", sum := "0dfa30acfffb666a45a801195edd4517c96ac069a075a66da6453c55e05dccca", func := "millpond/millpondlaw08.BuddyPlays", spec := "buddyPlays", inPlace := ["internal/abi.NoEscape", "internal/bytealg.MakeNoZero"], unfollowed := true, recurses := true, named := ["math/bits.deBruijn32tab", "math/bits.deBruijn64tab"], apart := false, laid := [("math/bits.deBruijn32tab", laid_math_bits_deBruijn32tab), ("math/bits.deBruijn64tab", laid_math_bits_deBruijn64tab)], narrowed := true }
def BuddyPlaysUptoSaid : Prop := buddyPlaysUptoRow.holds Tryz.pinned (OpenSpec.upto buddyPlaysSpec)

/-- 'millpondlaw09.CensusCounts', WHERE WHAT IT READS IS OF BULK AT MOST 1048576: true; the input reads as it did. -/
def censusCountsUptoRow : OpenClaim := { program := "ytojjkjedcafpeaagreatdoor", sum := "0dfa30acfffb666a45a801195edd4517c96ac069a075a66da6453c55e05dccca", func := "millpond/millpondlaw09.CensusCounts", spec := "censusCounts", inPlace := ["internal/abi.NoEscape", "internal/bytealg.MakeNoZero"], unfollowed := true, recurses := true, named := ["math/bits.deBruijn32tab", "math/bits.deBruijn64tab"], apart := false, laid := [("math/bits.deBruijn32tab", laid_math_bits_deBruijn32tab), ("math/bits.deBruijn64tab", laid_math_bits_deBruijn64tab)], narrowed := true }
def CensusCountsUptoSaid : Prop := censusCountsUptoRow.holds Tryz.pinned (OpenSpec.upto censusCountsSpec)

/-- 'millpondlaw09.CensusTells', WHERE WHAT IT READS IS OF BULK AT MOST 1048576: true; the input reads as it did. -/
def censusTellsUptoRow : OpenClaim := { program := "ytojjkjedcafpeaagreatdoor", sum := "0dfa30acfffb666a45a801195edd4517c96ac069a075a66da6453c55e05dccca", func := "millpond/millpondlaw09.CensusTells", spec := "censusTells", inPlace := ["internal/abi.NoEscape", "internal/bytealg.MakeNoZero"], unfollowed := true, recurses := true, named := ["math/bits.deBruijn32tab", "math/bits.deBruijn64tab"], apart := false, laid := [("math/bits.deBruijn32tab", laid_math_bits_deBruijn32tab), ("math/bits.deBruijn64tab", laid_math_bits_deBruijn64tab)], narrowed := true }
def CensusTellsUptoSaid : Prop := censusTellsUptoRow.holds Tryz.pinned (OpenSpec.upto censusTellsSpec)

/-- 'millpondlaw09.CensusGives', WHERE WHAT IT READS IS OF BULK AT MOST 1048576: true; the input reads as it did. -/
def censusGivesUptoRow : OpenClaim := { program := "ytojjkjedcafpeaagreatdoor", sum := "0dfa30acfffb666a45a801195edd4517c96ac069a075a66da6453c55e05dccca", func := "millpond/millpondlaw09.CensusGives", spec := "censusGives", inPlace := ["internal/abi.NoEscape", "internal/bytealg.MakeNoZero"], unfollowed := true, recurses := true, named := ["math/bits.deBruijn32tab", "math/bits.deBruijn64tab"], apart := false, laid := [("math/bits.deBruijn32tab", laid_math_bits_deBruijn32tab), ("math/bits.deBruijn64tab", laid_math_bits_deBruijn64tab)], narrowed := true }
def CensusGivesUptoSaid : Prop := censusGivesUptoRow.holds Tryz.pinned (OpenSpec.upto censusGivesSpec)

/-- 'millpondlaw09.CensusStill', WHERE WHAT IT READS IS OF BULK AT MOST 1048576: true; the input reads as it did. -/
def censusStillUptoRow : OpenClaim := { program := "ytojjkjedcafpeaagreatdoor", sum := "0dfa30acfffb666a45a801195edd4517c96ac069a075a66da6453c55e05dccca", func := "millpond/millpondlaw09.CensusStill", spec := "censusStill", inPlace := ["internal/abi.NoEscape", "internal/bytealg.MakeNoZero"], unfollowed := true, recurses := true, named := ["math/bits.deBruijn32tab", "math/bits.deBruijn64tab"], apart := false, laid := [("math/bits.deBruijn32tab", laid_math_bits_deBruijn32tab), ("math/bits.deBruijn64tab", laid_math_bits_deBruijn64tab)], narrowed := true }
def CensusStillUptoSaid : Prop := censusStillUptoRow.holds Tryz.pinned (OpenSpec.upto censusStillSpec)

end Rows
end Go.Proofs.YtojjkjedcafpeaaGreatDoor
