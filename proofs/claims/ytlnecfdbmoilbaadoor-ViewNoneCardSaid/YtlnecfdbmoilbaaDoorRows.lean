/-
  NARROWER THAN 'FOR EVERY INPUT', by the rows' own cells (each row's printed sentence says how): ArenaCopies: laid · ArenaGreat: laid · ArenaKeeps: laid · ArenaPlays: laid · ArenaNil: laid · ViewTexts: laid · ViewNone: laid · ViewApart: laid · ViewPlays: laid · ViewParts: laid.
  DERIVED. THE GIVEN ROWS OF THIS SEAT. 10 by the template 'for every input the law returns true; each argument reads behind the call as it read before'; 0 by the template 'total and deterministic' (their statements: YtlnecfdbmoilbaaDoorTotals.lean).
  GIVEN WITH THE SEED: the statements are not yours to turn. If you find one false, say at which input.
  Laid BY PROGRAM, IN A SANDBOX (cutbox-rows.mjs): the forced cells as the released guide's own fill.sh prints them over the translation 5fa0c92070c5b95e… (all of the seat's roots in one cut). By AI agents, Wed Nov 11 2026. No macro, syntax, notation, axiom, sorry.
-/
import Derived.Test.YtlnecfdbmoilbaaDoorChecked
import GoSem.Claim
import GoSem.ClaimJoined
import GoSem.ClaimMapViews
import Derived.JoinedTies
import Derived.KernelRfl
namespace Go.Proofs.YtlnecfdbmoilbaaDoor
/- THE CELL 'sum', in the pinned program and in every row, IS THE sha256 OF THE DUMP (.gsa) THAT YtlnecfdbmoilbaaDoorProg.lean LOADS. Nothing in Lean hashes anything: it is a label: what it is worth is what the hold of that sum in a sandbox is worth. -/
noncomputable def Tryd.pinned : Pinned := { name := "ytlnecfdbmoilbaadoor", sum := "5fa0c92070c5b95ebb04e07d49c14121a6fc6c3afc578b0d799565dcd996a643", checked := Tryd.checked }
namespace Rows
def none {H : Type} : Left H := { results := [], args := [] }

/- WHAT THE LISTED PACKAGE-LEVEL VARIABLES READ AS WHEN THE CALL BEGINS. Each datum BY PROGRAM (the guide's laid-datum.mjs) off the statement by which the dump's own 'gosem.cut.vars' lays the variable. In a bare row this is a premise. The card (YtlnecfdbmoilbaaDoorCards.lean) ties it to the program's text. -/
def laid_math_bits_deBruijn64tab {H : Type} : DataW H := .agg [.lit (.int .u8 0), .lit (.int .u8 1), .lit (.int .u8 56), .lit (.int .u8 2), .lit (.int .u8 57), .lit (.int .u8 49), .lit (.int .u8 28), .lit (.int .u8 3), .lit (.int .u8 61), .lit (.int .u8 58), .lit (.int .u8 42), .lit (.int .u8 50), .lit (.int .u8 38), .lit (.int .u8 29), .lit (.int .u8 17), .lit (.int .u8 4), .lit (.int .u8 62), .lit (.int .u8 47), .lit (.int .u8 59), .lit (.int .u8 36), .lit (.int .u8 45), .lit (.int .u8 43), .lit (.int .u8 51), .lit (.int .u8 22), .lit (.int .u8 53), .lit (.int .u8 39), .lit (.int .u8 33), .lit (.int .u8 30), .lit (.int .u8 24), .lit (.int .u8 18), .lit (.int .u8 12), .lit (.int .u8 5), .lit (.int .u8 63), .lit (.int .u8 55), .lit (.int .u8 48), .lit (.int .u8 27), .lit (.int .u8 60), .lit (.int .u8 41), .lit (.int .u8 37), .lit (.int .u8 16), .lit (.int .u8 46), .lit (.int .u8 35), .lit (.int .u8 44), .lit (.int .u8 21), .lit (.int .u8 52), .lit (.int .u8 32), .lit (.int .u8 23), .lit (.int .u8 11), .lit (.int .u8 54), .lit (.int .u8 26), .lit (.int .u8 40), .lit (.int .u8 15), .lit (.int .u8 34), .lit (.int .u8 20), .lit (.int .u8 31), .lit (.int .u8 10), .lit (.int .u8 25), .lit (.int .u8 14), .lit (.int .u8 19), .lit (.int .u8 9), .lit (.int .u8 13), .lit (.int .u8 8), .lit (.int .u8 7), .lit (.int .u8 6)]

/-- 'millpondlaw03.ArenaCopies': WHATEVER THE INPUT: true; the input reads as it did. -/
def arenaCopiesSpec : ChangeSpec := { name := "arenaCopies", fn := fun _ => fun
  | [d1, d2, d3, d4] => { results := [.lit (.bool true)], args := [d1, d2, d3, d4] }
  | _ => none }
def arenaCopiesRow : OpenClaim := { program := "ytlnecfdbmoilbaadoor", sum := "5fa0c92070c5b95ebb04e07d49c14121a6fc6c3afc578b0d799565dcd996a643", func := "millpond/millpondlaw03.ArenaCopies", spec := "arenaCopies", inPlace := ["internal/abi.NoEscape"], unfollowed := true, recurses := true, named := ["math/bits.deBruijn64tab"], apart := false, laid := [("math/bits.deBruijn64tab", laid_math_bits_deBruijn64tab)] }
def ArenaCopiesSaid : Prop := arenaCopiesRow.holds Tryd.pinned (OpenSpec.ofChange arenaCopiesSpec)

/-- ITS FALSE NEIGHBOUR: 'it returns false'. Refute it at one input. -/
def arenaCopiesWrong : ChangeSpec := { name := "arenaCopies", fn := fun _ => fun
  | [d1, d2, d3, d4] => { results := [.lit (.bool false)], args := [d1, d2, d3, d4] }
  | _ => none }
def ArenaCopiesWrongFalsely : Prop := arenaCopiesRow.holds Tryd.pinned (OpenSpec.ofChange arenaCopiesWrong)

/-- 'millpondlaw03.ArenaGreat': WHATEVER THE INPUT: true; the input reads as it did. -/
def arenaGreatSpec : ChangeSpec := { name := "arenaGreat", fn := fun _ => fun
  | [d1, d2, d3, d4, d5] => { results := [.lit (.bool true)], args := [d1, d2, d3, d4, d5] }
  | _ => none }
def arenaGreatRow : OpenClaim := { program := "ytlnecfdbmoilbaadoor", sum := "5fa0c92070c5b95ebb04e07d49c14121a6fc6c3afc578b0d799565dcd996a643", func := "millpond/millpondlaw03.ArenaGreat", spec := "arenaGreat", inPlace := ["internal/abi.NoEscape"], unfollowed := true, recurses := true, named := ["math/bits.deBruijn64tab"], apart := false, laid := [("math/bits.deBruijn64tab", laid_math_bits_deBruijn64tab)] }
def ArenaGreatSaid : Prop := arenaGreatRow.holds Tryd.pinned (OpenSpec.ofChange arenaGreatSpec)

/-- ITS FALSE NEIGHBOUR: 'it returns false'. Refute it at one input. -/
def arenaGreatWrong : ChangeSpec := { name := "arenaGreat", fn := fun _ => fun
  | [d1, d2, d3, d4, d5] => { results := [.lit (.bool false)], args := [d1, d2, d3, d4, d5] }
  | _ => none }
def ArenaGreatWrongFalsely : Prop := arenaGreatRow.holds Tryd.pinned (OpenSpec.ofChange arenaGreatWrong)

/-- 'millpondlaw03.ArenaKeeps': WHATEVER THE INPUT: true; the input reads as it did. -/
def arenaKeepsSpec : ChangeSpec := { name := "arenaKeeps", fn := fun _ => fun
  | [d1, d2, d3, d4] => { results := [.lit (.bool true)], args := [d1, d2, d3, d4] }
  | _ => none }
def arenaKeepsRow : OpenClaim := { program := "ytlnecfdbmoilbaadoor", sum := "5fa0c92070c5b95ebb04e07d49c14121a6fc6c3afc578b0d799565dcd996a643", func := "millpond/millpondlaw03.ArenaKeeps", spec := "arenaKeeps", inPlace := ["internal/abi.NoEscape"], unfollowed := true, recurses := true, named := ["math/bits.deBruijn64tab"], apart := false, laid := [("math/bits.deBruijn64tab", laid_math_bits_deBruijn64tab)] }
def ArenaKeepsSaid : Prop := arenaKeepsRow.holds Tryd.pinned (OpenSpec.ofChange arenaKeepsSpec)

/-- ITS FALSE NEIGHBOUR: 'it returns false'. Refute it at one input. -/
def arenaKeepsWrong : ChangeSpec := { name := "arenaKeeps", fn := fun _ => fun
  | [d1, d2, d3, d4] => { results := [.lit (.bool false)], args := [d1, d2, d3, d4] }
  | _ => none }
def ArenaKeepsWrongFalsely : Prop := arenaKeepsRow.holds Tryd.pinned (OpenSpec.ofChange arenaKeepsWrong)

/-- 'millpondlaw03.ArenaPlays': WHATEVER THE INPUT: true; the input reads as it did. -/
def arenaPlaysSpec : ChangeSpec := { name := "arenaPlays", fn := fun _ => fun
  | [d1, d2] => { results := [.lit (.bool true)], args := [d1, d2] }
  | _ => none }
def arenaPlaysRow : OpenClaim := { program := "ytlnecfdbmoilbaadoor", sum := "5fa0c92070c5b95ebb04e07d49c14121a6fc6c3afc578b0d799565dcd996a643", func := "millpond/millpondlaw03.ArenaPlays", spec := "arenaPlays", inPlace := ["internal/abi.NoEscape"], unfollowed := true, recurses := true, named := ["math/bits.deBruijn64tab"], apart := false, laid := [("math/bits.deBruijn64tab", laid_math_bits_deBruijn64tab)] }
def ArenaPlaysSaid : Prop := arenaPlaysRow.holds Tryd.pinned (OpenSpec.ofChange arenaPlaysSpec)

/-- ITS FALSE NEIGHBOUR: 'it returns false'. Refute it at one input. -/
def arenaPlaysWrong : ChangeSpec := { name := "arenaPlays", fn := fun _ => fun
  | [d1, d2] => { results := [.lit (.bool false)], args := [d1, d2] }
  | _ => none }
def ArenaPlaysWrongFalsely : Prop := arenaPlaysRow.holds Tryd.pinned (OpenSpec.ofChange arenaPlaysWrong)

/-- 'millpondlaw03.ArenaNil': WHATEVER THE INPUT: true; the input reads as it did. -/
def arenaNilSpec : ChangeSpec := { name := "arenaNil", fn := fun _ => fun
  | [] => { results := [.lit (.bool true)], args := [] }
  | _ => none }
def arenaNilRow : OpenClaim := { program := "ytlnecfdbmoilbaadoor", sum := "5fa0c92070c5b95ebb04e07d49c14121a6fc6c3afc578b0d799565dcd996a643", func := "millpond/millpondlaw03.ArenaNil", spec := "arenaNil", inPlace := ["internal/abi.NoEscape"], unfollowed := true, recurses := true, named := ["math/bits.deBruijn64tab"], apart := false, laid := [("math/bits.deBruijn64tab", laid_math_bits_deBruijn64tab)] }
def ArenaNilSaid : Prop := arenaNilRow.holds Tryd.pinned (OpenSpec.ofChange arenaNilSpec)

/-- ITS FALSE NEIGHBOUR: 'it returns false'. Refute it at one input. -/
def arenaNilWrong : ChangeSpec := { name := "arenaNil", fn := fun _ => fun
  | [] => { results := [.lit (.bool false)], args := [] }
  | _ => none }
def ArenaNilWrongFalsely : Prop := arenaNilRow.holds Tryd.pinned (OpenSpec.ofChange arenaNilWrong)

/-- 'millpondlaw04.ViewTexts': WHATEVER THE INPUT: true; the input reads as it did. -/
def viewTextsSpec : ChangeSpec := { name := "viewTexts", fn := fun _ => fun
  | [d1, d2] => { results := [.lit (.bool true)], args := [d1, d2] }
  | _ => none }
def viewTextsRow : OpenClaim := { program := "ytlnecfdbmoilbaadoor", sum := "5fa0c92070c5b95ebb04e07d49c14121a6fc6c3afc578b0d799565dcd996a643", func := "millpond/millpondlaw04.ViewTexts", spec := "viewTexts", inPlace := ["internal/abi.NoEscape", "internal/bytealg.MakeNoZero"], unfollowed := true, recurses := true, named := ["math/bits.deBruijn64tab"], apart := false, laid := [("math/bits.deBruijn64tab", laid_math_bits_deBruijn64tab)] }
def ViewTextsSaid : Prop := viewTextsRow.holds Tryd.pinned (OpenSpec.ofChange viewTextsSpec)

/-- ITS FALSE NEIGHBOUR: 'it returns false'. Refute it at one input. -/
def viewTextsWrong : ChangeSpec := { name := "viewTexts", fn := fun _ => fun
  | [d1, d2] => { results := [.lit (.bool false)], args := [d1, d2] }
  | _ => none }
def ViewTextsWrongFalsely : Prop := viewTextsRow.holds Tryd.pinned (OpenSpec.ofChange viewTextsWrong)

/-- 'millpondlaw04.ViewNone': WHATEVER THE INPUT: true; the input reads as it did. -/
def viewNoneSpec : ChangeSpec := { name := "viewNone", fn := fun _ => fun
  | [] => { results := [.lit (.bool true)], args := [] }
  | _ => none }
def viewNoneRow : OpenClaim := { program := "ytlnecfdbmoilbaadoor", sum := "5fa0c92070c5b95ebb04e07d49c14121a6fc6c3afc578b0d799565dcd996a643", func := "millpond/millpondlaw04.ViewNone", spec := "viewNone", inPlace := ["internal/abi.NoEscape", "internal/bytealg.MakeNoZero"], unfollowed := true, recurses := true, named := ["math/bits.deBruijn64tab"], apart := false, laid := [("math/bits.deBruijn64tab", laid_math_bits_deBruijn64tab)] }
def ViewNoneSaid : Prop := viewNoneRow.holds Tryd.pinned (OpenSpec.ofChange viewNoneSpec)

/-- ITS FALSE NEIGHBOUR: 'it returns false'. Refute it at one input. -/
def viewNoneWrong : ChangeSpec := { name := "viewNone", fn := fun _ => fun
  | [] => { results := [.lit (.bool false)], args := [] }
  | _ => none }
def ViewNoneWrongFalsely : Prop := viewNoneRow.holds Tryd.pinned (OpenSpec.ofChange viewNoneWrong)

/-- 'millpondlaw04.ViewApart': WHATEVER THE INPUT: true; the input reads as it did. -/
def viewApartSpec : ChangeSpec := { name := "viewApart", fn := fun _ => fun
  | [d1, d2, d3, d4] => { results := [.lit (.bool true)], args := [d1, d2, d3, d4] }
  | _ => none }
def viewApartRow : OpenClaim := { program := "ytlnecfdbmoilbaadoor", sum := "5fa0c92070c5b95ebb04e07d49c14121a6fc6c3afc578b0d799565dcd996a643", func := "millpond/millpondlaw04.ViewApart", spec := "viewApart", inPlace := ["internal/abi.NoEscape", "internal/bytealg.MakeNoZero"], unfollowed := true, recurses := true, named := ["math/bits.deBruijn64tab"], apart := false, laid := [("math/bits.deBruijn64tab", laid_math_bits_deBruijn64tab)] }
def ViewApartSaid : Prop := viewApartRow.holds Tryd.pinned (OpenSpec.ofChange viewApartSpec)

/-- ITS FALSE NEIGHBOUR: 'it returns false'. Refute it at one input. -/
def viewApartWrong : ChangeSpec := { name := "viewApart", fn := fun _ => fun
  | [d1, d2, d3, d4] => { results := [.lit (.bool false)], args := [d1, d2, d3, d4] }
  | _ => none }
def ViewApartWrongFalsely : Prop := viewApartRow.holds Tryd.pinned (OpenSpec.ofChange viewApartWrong)

/-- 'millpondlaw04.ViewPlays': WHATEVER THE INPUT: true; the input reads as it did. -/
def viewPlaysSpec : ChangeSpec := { name := "viewPlays", fn := fun _ => fun
  | [d1, d2, d3] => { results := [.lit (.bool true)], args := [d1, d2, d3] }
  | _ => none }
def viewPlaysRow : OpenClaim := { program := "ytlnecfdbmoilbaadoor", sum := "5fa0c92070c5b95ebb04e07d49c14121a6fc6c3afc578b0d799565dcd996a643", func := "millpond/millpondlaw04.ViewPlays", spec := "viewPlays", inPlace := ["internal/abi.NoEscape", "internal/bytealg.MakeNoZero"], unfollowed := true, recurses := true, named := ["math/bits.deBruijn64tab"], apart := false, laid := [("math/bits.deBruijn64tab", laid_math_bits_deBruijn64tab)] }
def ViewPlaysSaid : Prop := viewPlaysRow.holds Tryd.pinned (OpenSpec.ofChange viewPlaysSpec)

/-- ITS FALSE NEIGHBOUR: 'it returns false'. Refute it at one input. -/
def viewPlaysWrong : ChangeSpec := { name := "viewPlays", fn := fun _ => fun
  | [d1, d2, d3] => { results := [.lit (.bool false)], args := [d1, d2, d3] }
  | _ => none }
def ViewPlaysWrongFalsely : Prop := viewPlaysRow.holds Tryd.pinned (OpenSpec.ofChange viewPlaysWrong)

/-- 'millpondlaw04.ViewParts': WHATEVER THE INPUT: true; the input reads as it did. -/
def viewPartsSpec : ChangeSpec := { name := "viewParts", fn := fun _ => fun
  | [d1, d2, d3, d4, d5, d6, d7] => { results := [.lit (.bool true)], args := [d1, d2, d3, d4, d5, d6, d7] }
  | _ => none }
def viewPartsRow : OpenClaim := { program := "ytlnecfdbmoilbaadoor", sum := "5fa0c92070c5b95ebb04e07d49c14121a6fc6c3afc578b0d799565dcd996a643", func := "millpond/millpondlaw04.ViewParts", spec := "viewParts", inPlace := ["internal/abi.NoEscape", "internal/bytealg.MakeNoZero"], unfollowed := true, recurses := true, named := ["math/bits.deBruijn64tab"], apart := false, laid := [("math/bits.deBruijn64tab", laid_math_bits_deBruijn64tab)] }
def ViewPartsSaid : Prop := viewPartsRow.holds Tryd.pinned (OpenSpec.ofChange viewPartsSpec)

/-- ITS FALSE NEIGHBOUR: 'it returns false'. Refute it at one input. -/
def viewPartsWrong : ChangeSpec := { name := "viewParts", fn := fun _ => fun
  | [d1, d2, d3, d4, d5, d6, d7] => { results := [.lit (.bool false)], args := [d1, d2, d3, d4, d5, d6, d7] }
  | _ => none }
def ViewPartsWrongFalsely : Prop := viewPartsRow.holds Tryd.pinned (OpenSpec.ofChange viewPartsWrong)

/- THE SECOND FORM. 'bulk': how many values and letters a reading holds, each counted each time it is reached (what is shared counts as often as it is met; a slice's spare places count too). A statement '..UptoSaid' is the law's where the arguments, and the package variables that the reading takes, are together of bulk at most 1048576: NARROWER than '..Said'. Prove '..Said' where nothing that the law and all that it calls make is longer than what came in: it says more and counts as full. Else prove '..UptoSaid'. A law counts once. -/
mutual
def uptoBulk {H : Type} : DataW H → Nat
  | .lit (.string bytes) => bytes.length + 1
  | .lit _ => 1
  | .nil => 1
  | .ptr d => uptoBulk d + 1
  | .slice elems spare => uptoBulkAll elems + uptoBulkAll spare + 1
  | .agg parts => uptoBulkAll parts + 1
  | .iface _ d => uptoBulk d + 1
  | .map entries => uptoBulkEntries entries + 1
  | .held _ => 1
def uptoBulkAll {H : Type} : List (DataW H) → Nat
  | [] => 0
  | d :: r => uptoBulk d + uptoBulkAll r
def uptoBulkEntries {H : Type} : List (Lit × DataW H) → Nat
  | [] => 0
  | x :: r => uptoBulkEntry x + uptoBulkEntries r
def uptoBulkEntry {H : Type} : Lit × DataW H → Nat
  | (.string bytes, d) => bytes.length + uptoBulk d + 1
  | (_, d) => uptoBulk d + 1
 end
def uptoSmall : (H : Type) → List (DataW H) → Bool := fun _ ds => decide (uptoBulkAll ds ≤ 1048576)
def OpenSpec.upto (s : _root_.Go.ChangeSpec) : _root_.Go.OpenSpec := { _root_.Go.OpenSpec.ofChange s with cond := some uptoSmall }

/-- 'millpondlaw03.ArenaCopies', WHERE WHAT IT READS IS OF BULK AT MOST 1048576: true; the input reads as it did. -/
def arenaCopiesUptoRow : OpenClaim := { program := "ytlnecfdbmoilbaadoor", sum := "5fa0c92070c5b95ebb04e07d49c14121a6fc6c3afc578b0d799565dcd996a643", func := "millpond/millpondlaw03.ArenaCopies", spec := "arenaCopies", inPlace := ["internal/abi.NoEscape"], unfollowed := true, recurses := true, named := ["math/bits.deBruijn64tab"], apart := false, laid := [("math/bits.deBruijn64tab", laid_math_bits_deBruijn64tab)], narrowed := true }
def ArenaCopiesUptoSaid : Prop := arenaCopiesUptoRow.holds Tryd.pinned (OpenSpec.upto arenaCopiesSpec)

/-- 'millpondlaw03.ArenaGreat', WHERE WHAT IT READS IS OF BULK AT MOST 1048576: true; the input reads as it did. -/
def arenaGreatUptoRow : OpenClaim := { program := "ytlnecfdbmoilbaadoor", sum := "5fa0c92070c5b95ebb04e07d49c14121a6fc6c3afc578b0d799565dcd996a643", func := "millpond/millpondlaw03.ArenaGreat", spec := "arenaGreat", inPlace := ["internal/abi.NoEscape"], unfollowed := true, recurses := true, named := ["math/bits.deBruijn64tab"], apart := false, laid := [("math/bits.deBruijn64tab", laid_math_bits_deBruijn64tab)], narrowed := true }
def ArenaGreatUptoSaid : Prop := arenaGreatUptoRow.holds Tryd.pinned (OpenSpec.upto arenaGreatSpec)

/-- 'millpondlaw03.ArenaKeeps', WHERE WHAT IT READS IS OF BULK AT MOST 1048576: true; the input reads as it did. -/
def arenaKeepsUptoRow : OpenClaim := { program := "ytlnecfdbmoilbaadoor", sum := "5fa0c92070c5b95ebb04e07d49c14121a6fc6c3afc578b0d799565dcd996a643", func := "millpond/millpondlaw03.ArenaKeeps", spec := "arenaKeeps", inPlace := ["internal/abi.NoEscape"], unfollowed := true, recurses := true, named := ["math/bits.deBruijn64tab"], apart := false, laid := [("math/bits.deBruijn64tab", laid_math_bits_deBruijn64tab)], narrowed := true }
def ArenaKeepsUptoSaid : Prop := arenaKeepsUptoRow.holds Tryd.pinned (OpenSpec.upto arenaKeepsSpec)

/-- 'millpondlaw03.ArenaPlays', WHERE WHAT IT READS IS OF BULK AT MOST 1048576: true; the input reads as it did. -/
def arenaPlaysUptoRow : OpenClaim := { program := "ytlnecfdbmoilbaadoor", sum := "5fa0c92070c5b95ebb04e07d49c14121a6fc6c3afc578b0d799565dcd996a643", func := "millpond/millpondlaw03.ArenaPlays", spec := "arenaPlays", inPlace := ["internal/abi.NoEscape"], unfollowed := true, recurses := true, named := ["math/bits.deBruijn64tab"], apart := false, laid := [("math/bits.deBruijn64tab", laid_math_bits_deBruijn64tab)], narrowed := true }
def ArenaPlaysUptoSaid : Prop := arenaPlaysUptoRow.holds Tryd.pinned (OpenSpec.upto arenaPlaysSpec)

/-- 'millpondlaw03.ArenaNil', WHERE WHAT IT READS IS OF BULK AT MOST 1048576: true; the input reads as it did. -/
def arenaNilUptoRow : OpenClaim := { program := "ytlnecfdbmoilbaadoor", sum := "5fa0c92070c5b95ebb04e07d49c14121a6fc6c3afc578b0d799565dcd996a643", func := "millpond/millpondlaw03.ArenaNil", spec := "arenaNil", inPlace := ["internal/abi.NoEscape"], unfollowed := true, recurses := true, named := ["math/bits.deBruijn64tab"], apart := false, laid := [("math/bits.deBruijn64tab", laid_math_bits_deBruijn64tab)], narrowed := true }
def ArenaNilUptoSaid : Prop := arenaNilUptoRow.holds Tryd.pinned (OpenSpec.upto arenaNilSpec)

/-- 'millpondlaw04.ViewTexts', WHERE WHAT IT READS IS OF BULK AT MOST 1048576: true; the input reads as it did. -/
def viewTextsUptoRow : OpenClaim := { program := "ytlnecfdbmoilbaadoor", sum := "5fa0c92070c5b95ebb04e07d49c14121a6fc6c3afc578b0d799565dcd996a643", func := "millpond/millpondlaw04.ViewTexts", spec := "viewTexts", inPlace := ["internal/abi.NoEscape", "internal/bytealg.MakeNoZero"], unfollowed := true, recurses := true, named := ["math/bits.deBruijn64tab"], apart := false, laid := [("math/bits.deBruijn64tab", laid_math_bits_deBruijn64tab)], narrowed := true }
def ViewTextsUptoSaid : Prop := viewTextsUptoRow.holds Tryd.pinned (OpenSpec.upto viewTextsSpec)

/-- 'millpondlaw04.ViewNone', WHERE WHAT IT READS IS OF BULK AT MOST 1048576: true; the input reads as it did. -/
def viewNoneUptoRow : OpenClaim := { program := "ytlnecfdbmoilbaadoor", sum := "5fa0c92070c5b95ebb04e07d49c14121a6fc6c3afc578b0d799565dcd996a643", func := "millpond/millpondlaw04.ViewNone", spec := "viewNone", inPlace := ["internal/abi.NoEscape", "internal/bytealg.MakeNoZero"], unfollowed := true, recurses := true, named := ["math/bits.deBruijn64tab"], apart := false, laid := [("math/bits.deBruijn64tab", laid_math_bits_deBruijn64tab)], narrowed := true }
def ViewNoneUptoSaid : Prop := viewNoneUptoRow.holds Tryd.pinned (OpenSpec.upto viewNoneSpec)

/-- 'millpondlaw04.ViewApart', WHERE WHAT IT READS IS OF BULK AT MOST 1048576: true; the input reads as it did. -/
def viewApartUptoRow : OpenClaim := { program := "ytlnecfdbmoilbaadoor", sum := "5fa0c92070c5b95ebb04e07d49c14121a6fc6c3afc578b0d799565dcd996a643", func := "millpond/millpondlaw04.ViewApart", spec := "viewApart", inPlace := ["internal/abi.NoEscape", "internal/bytealg.MakeNoZero"], unfollowed := true, recurses := true, named := ["math/bits.deBruijn64tab"], apart := false, laid := [("math/bits.deBruijn64tab", laid_math_bits_deBruijn64tab)], narrowed := true }
def ViewApartUptoSaid : Prop := viewApartUptoRow.holds Tryd.pinned (OpenSpec.upto viewApartSpec)

/-- 'millpondlaw04.ViewPlays', WHERE WHAT IT READS IS OF BULK AT MOST 1048576: true; the input reads as it did. -/
def viewPlaysUptoRow : OpenClaim := { program := "ytlnecfdbmoilbaadoor", sum := "5fa0c92070c5b95ebb04e07d49c14121a6fc6c3afc578b0d799565dcd996a643", func := "millpond/millpondlaw04.ViewPlays", spec := "viewPlays", inPlace := ["internal/abi.NoEscape", "internal/bytealg.MakeNoZero"], unfollowed := true, recurses := true, named := ["math/bits.deBruijn64tab"], apart := false, laid := [("math/bits.deBruijn64tab", laid_math_bits_deBruijn64tab)], narrowed := true }
def ViewPlaysUptoSaid : Prop := viewPlaysUptoRow.holds Tryd.pinned (OpenSpec.upto viewPlaysSpec)

/-- 'millpondlaw04.ViewParts', WHERE WHAT IT READS IS OF BULK AT MOST 1048576: true; the input reads as it did. -/
def viewPartsUptoRow : OpenClaim := { program := "ytlnecfdbmoilbaadoor", sum := "5fa0c92070c5b95ebb04e07d49c14121a6fc6c3afc578b0d799565dcd996a643", func := "millpond/millpondlaw04.ViewParts", spec := "viewParts", inPlace := ["internal/abi.NoEscape", "internal/bytealg.MakeNoZero"], unfollowed := true, recurses := true, named := ["math/bits.deBruijn64tab"], apart := false, laid := [("math/bits.deBruijn64tab", laid_math_bits_deBruijn64tab)], narrowed := true }
def ViewPartsUptoSaid : Prop := viewPartsUptoRow.holds Tryd.pinned (OpenSpec.upto viewPartsSpec)

end Rows
end Go.Proofs.YtlnecfdbmoilbaaDoor
