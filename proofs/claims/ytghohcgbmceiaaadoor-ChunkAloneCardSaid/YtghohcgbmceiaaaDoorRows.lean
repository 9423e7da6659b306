/-
  NARROWER THAN 'FOR EVERY INPUT', by the rows' own cells (each row's printed sentence says how): ViewTexts: laid · ViewParts: laid · FieldOf: laid · FieldBack: laid · ChunkEnds: laid · ChunkAlone: laid · ObjectFits: laid · ObjectNeeds: laid · TagsNone: laid · HandleNone: laid · CleanNone: laid · BinsNone: laid.
  DERIVED. THE GIVEN ROWS OF THIS SEAT. 12 by the template 'for every input the law returns true; each argument reads behind the call as it read before'; 0 by the template 'total and deterministic' (their statements: YtghohcgbmceiaaaDoorTotals.lean).
  GIVEN WITH THE SEED: the statements are not yours to turn. If you find one false, say at which input.
  Laid BY PROGRAM, IN A SANDBOX (cutbox-rows.mjs): the forced cells as the released guide's own fill.sh prints them over the translation e4c8a41a79370ebc… (all of the seat's roots in one cut). By AI agents, Wed Nov 11 2026. No macro, syntax, notation, axiom, sorry.
-/
import Derived.Test.YtghohcgbmceiaaaDoorChecked
import GoSem.Claim
import GoSem.ClaimJoined
import GoSem.ClaimMapViews
import Derived.JoinedTies
import Derived.KernelRfl
namespace Go.Proofs.YtghohcgbmceiaaaDoor
/- THE CELL 'sum', in the pinned program and in every row, IS THE sha256 OF THE DUMP (.gsa) THAT YtghohcgbmceiaaaDoorProg.lean LOADS. Nothing in Lean hashes anything: it is a label: what it is worth is what the hold of that sum in a sandbox is worth. -/
noncomputable def Tryd.pinned : Pinned := { name := "ytghohcgbmceiaaadoor", sum := "e4c8a41a79370ebcb045f12c8796dd33fcddf9a61a9c59bc63ba10fdb3976b7c", checked := Tryd.checked }
namespace Rows
def none {H : Type} : Left H := { results := [], args := [] }

/- WHAT THE LISTED PACKAGE-LEVEL VARIABLES READ AS WHEN THE CALL BEGINS. Each datum BY PROGRAM (the guide's laid-datum.mjs) off the statement by which the dump's own 'gosem.cut.vars' lays the variable. In a bare row this is a premise. The card (YtghohcgbmceiaaaDoorCards.lean) ties it to the program's text. -/
def laid_math_bits_deBruijn64tab {H : Type} : DataW H := .agg [.lit (.int .u8 0), .lit (.int .u8 1), .lit (.int .u8 56), .lit (.int .u8 2), .lit (.int .u8 57), .lit (.int .u8 49), .lit (.int .u8 28), .lit (.int .u8 3), .lit (.int .u8 61), .lit (.int .u8 58), .lit (.int .u8 42), .lit (.int .u8 50), .lit (.int .u8 38), .lit (.int .u8 29), .lit (.int .u8 17), .lit (.int .u8 4), .lit (.int .u8 62), .lit (.int .u8 47), .lit (.int .u8 59), .lit (.int .u8 36), .lit (.int .u8 45), .lit (.int .u8 43), .lit (.int .u8 51), .lit (.int .u8 22), .lit (.int .u8 53), .lit (.int .u8 39), .lit (.int .u8 33), .lit (.int .u8 30), .lit (.int .u8 24), .lit (.int .u8 18), .lit (.int .u8 12), .lit (.int .u8 5), .lit (.int .u8 63), .lit (.int .u8 55), .lit (.int .u8 48), .lit (.int .u8 27), .lit (.int .u8 60), .lit (.int .u8 41), .lit (.int .u8 37), .lit (.int .u8 16), .lit (.int .u8 46), .lit (.int .u8 35), .lit (.int .u8 44), .lit (.int .u8 21), .lit (.int .u8 52), .lit (.int .u8 32), .lit (.int .u8 23), .lit (.int .u8 11), .lit (.int .u8 54), .lit (.int .u8 26), .lit (.int .u8 40), .lit (.int .u8 15), .lit (.int .u8 34), .lit (.int .u8 20), .lit (.int .u8 31), .lit (.int .u8 10), .lit (.int .u8 25), .lit (.int .u8 14), .lit (.int .u8 19), .lit (.int .u8 9), .lit (.int .u8 13), .lit (.int .u8 8), .lit (.int .u8 7), .lit (.int .u8 6)]

/-- 'millpondlaw04.ViewTexts': WHATEVER THE INPUT: true; the input reads as it did. -/
def viewTextsSpec : ChangeSpec := { name := "viewTexts", fn := fun _ => fun
  | [d1, d2] => { results := [.lit (.bool true)], args := [d1, d2] }
  | _ => none }
def viewTextsRow : OpenClaim := { program := "ytghohcgbmceiaaadoor", sum := "e4c8a41a79370ebcb045f12c8796dd33fcddf9a61a9c59bc63ba10fdb3976b7c", func := "millpond/millpondlaw04.ViewTexts", spec := "viewTexts", inPlace := ["internal/abi.NoEscape", "internal/bytealg.MakeNoZero"], unfollowed := true, recurses := true, named := ["math/bits.deBruijn64tab"], apart := false, laid := [("math/bits.deBruijn64tab", laid_math_bits_deBruijn64tab)] }
def ViewTextsSaid : Prop := viewTextsRow.holds Tryd.pinned (OpenSpec.ofChange viewTextsSpec)

/-- ITS FALSE NEIGHBOUR: 'it returns false'. Refute it at one input. -/
def viewTextsWrong : ChangeSpec := { name := "viewTexts", fn := fun _ => fun
  | [d1, d2] => { results := [.lit (.bool false)], args := [d1, d2] }
  | _ => none }
def ViewTextsWrongFalsely : Prop := viewTextsRow.holds Tryd.pinned (OpenSpec.ofChange viewTextsWrong)

/-- 'millpondlaw04.ViewParts': WHATEVER THE INPUT: true; the input reads as it did. -/
def viewPartsSpec : ChangeSpec := { name := "viewParts", fn := fun _ => fun
  | [d1, d2, d3, d4, d5, d6, d7] => { results := [.lit (.bool true)], args := [d1, d2, d3, d4, d5, d6, d7] }
  | _ => none }
def viewPartsRow : OpenClaim := { program := "ytghohcgbmceiaaadoor", sum := "e4c8a41a79370ebcb045f12c8796dd33fcddf9a61a9c59bc63ba10fdb3976b7c", func := "millpond/millpondlaw04.ViewParts", spec := "viewParts", inPlace := ["internal/abi.NoEscape", "internal/bytealg.MakeNoZero"], unfollowed := true, recurses := true, named := ["math/bits.deBruijn64tab"], apart := false, laid := [("math/bits.deBruijn64tab", laid_math_bits_deBruijn64tab)] }
def ViewPartsSaid : Prop := viewPartsRow.holds Tryd.pinned (OpenSpec.ofChange viewPartsSpec)

/-- ITS FALSE NEIGHBOUR: 'it returns false'. Refute it at one input. -/
def viewPartsWrong : ChangeSpec := { name := "viewParts", fn := fun _ => fun
  | [d1, d2, d3, d4, d5, d6, d7] => { results := [.lit (.bool false)], args := [d1, d2, d3, d4, d5, d6, d7] }
  | _ => none }
def ViewPartsWrongFalsely : Prop := viewPartsRow.holds Tryd.pinned (OpenSpec.ofChange viewPartsWrong)

/-- 'millpondlaw05.FieldOf': WHATEVER THE INPUT: true; the input reads as it did. -/
def fieldOfSpec : ChangeSpec := { name := "fieldOf", fn := fun _ => fun
  | [d1, d2] => { results := [.lit (.bool true)], args := [d1, d2] }
  | _ => none }
def fieldOfRow : OpenClaim := { program := "ytghohcgbmceiaaadoor", sum := "e4c8a41a79370ebcb045f12c8796dd33fcddf9a61a9c59bc63ba10fdb3976b7c", func := "millpond/millpondlaw05.FieldOf", spec := "fieldOf", inPlace := ["internal/abi.NoEscape"], unfollowed := true, recurses := true, named := ["math/bits.deBruijn64tab"], apart := false, laid := [("math/bits.deBruijn64tab", laid_math_bits_deBruijn64tab)] }
def FieldOfSaid : Prop := fieldOfRow.holds Tryd.pinned (OpenSpec.ofChange fieldOfSpec)

/-- ITS FALSE NEIGHBOUR: 'it returns false'. Refute it at one input. -/
def fieldOfWrong : ChangeSpec := { name := "fieldOf", fn := fun _ => fun
  | [d1, d2] => { results := [.lit (.bool false)], args := [d1, d2] }
  | _ => none }
def FieldOfWrongFalsely : Prop := fieldOfRow.holds Tryd.pinned (OpenSpec.ofChange fieldOfWrong)

/-- 'millpondlaw05.FieldBack': WHATEVER THE INPUT: true; the input reads as it did. -/
def fieldBackSpec : ChangeSpec := { name := "fieldBack", fn := fun _ => fun
  | [d1, d2, d3, d4] => { results := [.lit (.bool true)], args := [d1, d2, d3, d4] }
  | _ => none }
def fieldBackRow : OpenClaim := { program := "ytghohcgbmceiaaadoor", sum := "e4c8a41a79370ebcb045f12c8796dd33fcddf9a61a9c59bc63ba10fdb3976b7c", func := "millpond/millpondlaw05.FieldBack", spec := "fieldBack", inPlace := ["internal/abi.NoEscape"], unfollowed := true, recurses := true, named := ["math/bits.deBruijn64tab"], apart := false, laid := [("math/bits.deBruijn64tab", laid_math_bits_deBruijn64tab)] }
def FieldBackSaid : Prop := fieldBackRow.holds Tryd.pinned (OpenSpec.ofChange fieldBackSpec)

/-- ITS FALSE NEIGHBOUR: 'it returns false'. Refute it at one input. -/
def fieldBackWrong : ChangeSpec := { name := "fieldBack", fn := fun _ => fun
  | [d1, d2, d3, d4] => { results := [.lit (.bool false)], args := [d1, d2, d3, d4] }
  | _ => none }
def FieldBackWrongFalsely : Prop := fieldBackRow.holds Tryd.pinned (OpenSpec.ofChange fieldBackWrong)

/-- 'millpondlaw10.ChunkEnds': WHATEVER THE INPUT: true; the input reads as it did. -/
def chunkEndsSpec : ChangeSpec := { name := "chunkEnds", fn := fun _ => fun
  | [d1, d2, d3] => { results := [.lit (.bool true)], args := [d1, d2, d3] }
  | _ => none }
def chunkEndsRow : OpenClaim := { program := "ytghohcgbmceiaaadoor", sum := "e4c8a41a79370ebcb045f12c8796dd33fcddf9a61a9c59bc63ba10fdb3976b7c", func := "millpond/millpondlaw10.ChunkEnds", spec := "chunkEnds", inPlace := ["internal/abi.NoEscape"], unfollowed := true, recurses := true, named := ["math/bits.deBruijn64tab"], apart := false, laid := [("math/bits.deBruijn64tab", laid_math_bits_deBruijn64tab)] }
def ChunkEndsSaid : Prop := chunkEndsRow.holds Tryd.pinned (OpenSpec.ofChange chunkEndsSpec)

/-- ITS FALSE NEIGHBOUR: 'it returns false'. Refute it at one input. -/
def chunkEndsWrong : ChangeSpec := { name := "chunkEnds", fn := fun _ => fun
  | [d1, d2, d3] => { results := [.lit (.bool false)], args := [d1, d2, d3] }
  | _ => none }
def ChunkEndsWrongFalsely : Prop := chunkEndsRow.holds Tryd.pinned (OpenSpec.ofChange chunkEndsWrong)

/-- 'millpondlaw10.ChunkAlone': WHATEVER THE INPUT: true; the input reads as it did. -/
def chunkAloneSpec : ChangeSpec := { name := "chunkAlone", fn := fun _ => fun
  | [d1, d2] => { results := [.lit (.bool true)], args := [d1, d2] }
  | _ => none }
def chunkAloneRow : OpenClaim := { program := "ytghohcgbmceiaaadoor", sum := "e4c8a41a79370ebcb045f12c8796dd33fcddf9a61a9c59bc63ba10fdb3976b7c", func := "millpond/millpondlaw10.ChunkAlone", spec := "chunkAlone", inPlace := ["internal/abi.NoEscape"], unfollowed := true, recurses := true, named := ["math/bits.deBruijn64tab"], apart := false, laid := [("math/bits.deBruijn64tab", laid_math_bits_deBruijn64tab)] }
def ChunkAloneSaid : Prop := chunkAloneRow.holds Tryd.pinned (OpenSpec.ofChange chunkAloneSpec)

/-- ITS FALSE NEIGHBOUR: 'it returns false'. Refute it at one input. -/
def chunkAloneWrong : ChangeSpec := { name := "chunkAlone", fn := fun _ => fun
  | [d1, d2] => { results := [.lit (.bool false)], args := [d1, d2] }
  | _ => none }
def ChunkAloneWrongFalsely : Prop := chunkAloneRow.holds Tryd.pinned (OpenSpec.ofChange chunkAloneWrong)

/-- 'millpondlaw14.ObjectFits': WHATEVER THE INPUT: true; the input reads as it did. -/
def objectFitsSpec : ChangeSpec := { name := "objectFits", fn := fun _ => fun
  | [d1, d2, d3, d4] => { results := [.lit (.bool true)], args := [d1, d2, d3, d4] }
  | _ => none }
def objectFitsRow : OpenClaim := { program := "ytghohcgbmceiaaadoor", sum := "e4c8a41a79370ebcb045f12c8796dd33fcddf9a61a9c59bc63ba10fdb3976b7c", func := "millpond/millpondlaw14.ObjectFits", spec := "objectFits", inPlace := ["internal/abi.NoEscape"], unfollowed := true, recurses := true, named := ["math/bits.deBruijn64tab"], apart := false, laid := [("math/bits.deBruijn64tab", laid_math_bits_deBruijn64tab)] }
def ObjectFitsSaid : Prop := objectFitsRow.holds Tryd.pinned (OpenSpec.ofChange objectFitsSpec)

/-- ITS FALSE NEIGHBOUR: 'it returns false'. Refute it at one input. -/
def objectFitsWrong : ChangeSpec := { name := "objectFits", fn := fun _ => fun
  | [d1, d2, d3, d4] => { results := [.lit (.bool false)], args := [d1, d2, d3, d4] }
  | _ => none }
def ObjectFitsWrongFalsely : Prop := objectFitsRow.holds Tryd.pinned (OpenSpec.ofChange objectFitsWrong)

/-- 'millpondlaw14.ObjectNeeds': WHATEVER THE INPUT: true; the input reads as it did. -/
def objectNeedsSpec : ChangeSpec := { name := "objectNeeds", fn := fun _ => fun
  | [d1, d2, d3, d4] => { results := [.lit (.bool true)], args := [d1, d2, d3, d4] }
  | _ => none }
def objectNeedsRow : OpenClaim := { program := "ytghohcgbmceiaaadoor", sum := "e4c8a41a79370ebcb045f12c8796dd33fcddf9a61a9c59bc63ba10fdb3976b7c", func := "millpond/millpondlaw14.ObjectNeeds", spec := "objectNeeds", inPlace := ["internal/abi.NoEscape"], unfollowed := true, recurses := true, named := ["math/bits.deBruijn64tab"], apart := false, laid := [("math/bits.deBruijn64tab", laid_math_bits_deBruijn64tab)] }
def ObjectNeedsSaid : Prop := objectNeedsRow.holds Tryd.pinned (OpenSpec.ofChange objectNeedsSpec)

/-- ITS FALSE NEIGHBOUR: 'it returns false'. Refute it at one input. -/
def objectNeedsWrong : ChangeSpec := { name := "objectNeeds", fn := fun _ => fun
  | [d1, d2, d3, d4] => { results := [.lit (.bool false)], args := [d1, d2, d3, d4] }
  | _ => none }
def ObjectNeedsWrongFalsely : Prop := objectNeedsRow.holds Tryd.pinned (OpenSpec.ofChange objectNeedsWrong)

/-- 'millpondlaw06.TagsNone': WHATEVER THE INPUT: true; the input reads as it did. -/
def tagsNoneSpec : ChangeSpec := { name := "tagsNone", fn := fun _ => fun
  | [] => { results := [.lit (.bool true)], args := [] }
  | _ => none }
def tagsNoneRow : OpenClaim := { program := "ytghohcgbmceiaaadoor", sum := "e4c8a41a79370ebcb045f12c8796dd33fcddf9a61a9c59bc63ba10fdb3976b7c", func := "millpond/millpondlaw06.TagsNone", spec := "tagsNone", inPlace := ["internal/abi.NoEscape", "internal/bytealg.MakeNoZero"], unfollowed := true, recurses := true, named := ["math/bits.deBruijn64tab"], apart := false, laid := [("math/bits.deBruijn64tab", laid_math_bits_deBruijn64tab)] }
def TagsNoneSaid : Prop := tagsNoneRow.holds Tryd.pinned (OpenSpec.ofChange tagsNoneSpec)

/-- ITS FALSE NEIGHBOUR: 'it returns false'. Refute it at one input. -/
def tagsNoneWrong : ChangeSpec := { name := "tagsNone", fn := fun _ => fun
  | [] => { results := [.lit (.bool false)], args := [] }
  | _ => none }
def TagsNoneWrongFalsely : Prop := tagsNoneRow.holds Tryd.pinned (OpenSpec.ofChange tagsNoneWrong)

/-- 'millpondlaw17.HandleNone': WHATEVER THE INPUT: true; the input reads as it did. -/
def handleNoneSpec : ChangeSpec := { name := "handleNone", fn := fun _ => fun
  | [] => { results := [.lit (.bool true)], args := [] }
  | _ => none }
def handleNoneRow : OpenClaim := { program := "ytghohcgbmceiaaadoor", sum := "e4c8a41a79370ebcb045f12c8796dd33fcddf9a61a9c59bc63ba10fdb3976b7c", func := "millpond/millpondlaw17.HandleNone", spec := "handleNone", inPlace := ["internal/abi.NoEscape"], unfollowed := true, recurses := true, named := ["math/bits.deBruijn64tab"], apart := false, laid := [("math/bits.deBruijn64tab", laid_math_bits_deBruijn64tab)] }
def HandleNoneSaid : Prop := handleNoneRow.holds Tryd.pinned (OpenSpec.ofChange handleNoneSpec)

/-- ITS FALSE NEIGHBOUR: 'it returns false'. Refute it at one input. -/
def handleNoneWrong : ChangeSpec := { name := "handleNone", fn := fun _ => fun
  | [] => { results := [.lit (.bool false)], args := [] }
  | _ => none }
def HandleNoneWrongFalsely : Prop := handleNoneRow.holds Tryd.pinned (OpenSpec.ofChange handleNoneWrong)

/-- 'millpondlaw21.CleanNone': WHATEVER THE INPUT: true; the input reads as it did. -/
def cleanNoneSpec : ChangeSpec := { name := "cleanNone", fn := fun _ => fun
  | [] => { results := [.lit (.bool true)], args := [] }
  | _ => none }
def cleanNoneRow : OpenClaim := { program := "ytghohcgbmceiaaadoor", sum := "e4c8a41a79370ebcb045f12c8796dd33fcddf9a61a9c59bc63ba10fdb3976b7c", func := "millpond/millpondlaw21.CleanNone", spec := "cleanNone", inPlace := ["internal/abi.NoEscape"], unfollowed := true, recurses := true, named := ["math/bits.deBruijn64tab"], apart := false, laid := [("math/bits.deBruijn64tab", laid_math_bits_deBruijn64tab)] }
def CleanNoneSaid : Prop := cleanNoneRow.holds Tryd.pinned (OpenSpec.ofChange cleanNoneSpec)

/-- ITS FALSE NEIGHBOUR: 'it returns false'. Refute it at one input. -/
def cleanNoneWrong : ChangeSpec := { name := "cleanNone", fn := fun _ => fun
  | [] => { results := [.lit (.bool false)], args := [] }
  | _ => none }
def CleanNoneWrongFalsely : Prop := cleanNoneRow.holds Tryd.pinned (OpenSpec.ofChange cleanNoneWrong)

/-- 'millpondlaw11.BinsNone': WHATEVER THE INPUT: true; the input reads as it did. -/
def binsNoneSpec : ChangeSpec := { name := "binsNone", fn := fun _ => fun
  | [] => { results := [.lit (.bool true)], args := [] }
  | _ => none }
def binsNoneRow : OpenClaim := { program := "ytghohcgbmceiaaadoor", sum := "e4c8a41a79370ebcb045f12c8796dd33fcddf9a61a9c59bc63ba10fdb3976b7c", func := "millpond/millpondlaw11.BinsNone", spec := "binsNone", inPlace := ["internal/abi.NoEscape"], unfollowed := true, recurses := true, named := ["math/bits.deBruijn64tab"], apart := false, laid := [("math/bits.deBruijn64tab", laid_math_bits_deBruijn64tab)] }
def BinsNoneSaid : Prop := binsNoneRow.holds Tryd.pinned (OpenSpec.ofChange binsNoneSpec)

/-- ITS FALSE NEIGHBOUR: 'it returns false'. Refute it at one input. -/
def binsNoneWrong : ChangeSpec := { name := "binsNone", fn := fun _ => fun
  | [] => { results := [.lit (.bool false)], args := [] }
  | _ => none }
def BinsNoneWrongFalsely : Prop := binsNoneRow.holds Tryd.pinned (OpenSpec.ofChange binsNoneWrong)

/- THE SECOND FORM. 'bulk': how many values and letters a reading holds, each counted each time it is reached (what is shared counts as often as it is met; a slice's spare places count too). A statement '..UptoSaid' is the law's where the arguments, and the package variables that the reading takes, are together of bulk at most 1048576: NARROWER than '..Said'. Prove '..Said' where nothing that the law and all that it calls make is longer than what came in: it says more and counts as full. Else prove '..UptoSaid'. A law counts once. -/
mutual
def uptoBulk {H : Type} : DataW H → Nat
  | .lit (.string bytes) => bytes.length + 1
  | .lit _ => 1
  | .nil => 1
  | .ptr d => uptoBulk d + 1
  | .slice elems spare => uptoBulkAll elems + uptoBulkAll spare + 1
  | .agg parts => uptoBulkAll parts + 1
  | .iface _ d => uptoBulk d + 1
  | .map entries => uptoBulkEntries entries + 1
  | .held _ => 1
def uptoBulkAll {H : Type} : List (DataW H) → Nat
  | [] => 0
  | d :: r => uptoBulk d + uptoBulkAll r
def uptoBulkEntries {H : Type} : List (Lit × DataW H) → Nat
  | [] => 0
  | x :: r => uptoBulkEntry x + uptoBulkEntries r
def uptoBulkEntry {H : Type} : Lit × DataW H → Nat
  | (.string bytes, d) => bytes.length + uptoBulk d + 1
  | (_, d) => uptoBulk d + 1
 end
def uptoSmall : (H : Type) → List (DataW H) → Bool := fun _ ds => decide (uptoBulkAll ds ≤ 1048576)
def OpenSpec.upto (s : _root_.Go.ChangeSpec) : _root_.Go.OpenSpec := { _root_.Go.OpenSpec.ofChange s with cond := some uptoSmall }

/-- 'millpondlaw04.ViewTexts', WHERE WHAT IT READS IS OF BULK AT MOST 1048576: true; the input reads as it did. -/
def viewTextsUptoRow : OpenClaim := { program := "ytghohcgbmceiaaadoor", sum := "e4c8a41a79370ebcb045f12c8796dd33fcddf9a61a9c59bc63ba10fdb3976b7c", func := "millpond/millpondlaw04.ViewTexts", spec := "viewTexts", inPlace := ["internal/abi.NoEscape", "internal/bytealg.MakeNoZero"], unfollowed := true, recurses := true, named := ["math/bits.deBruijn64tab"], apart := false, laid := [("math/bits.deBruijn64tab", laid_math_bits_deBruijn64tab)], narrowed := true }
def ViewTextsUptoSaid : Prop := viewTextsUptoRow.holds Tryd.pinned (OpenSpec.upto viewTextsSpec)

/-- 'millpondlaw04.ViewParts', WHERE WHAT IT READS IS OF BULK AT MOST 1048576: true; the input reads as it did. -/
def viewPartsUptoRow : OpenClaim := { program := "ytghohcgbmceiaaadoor", sum := "e4c8a41a79370ebcb045f12c8796dd33fcddf9a61a9c59bc63ba10fdb3976b7c", func := "millpond/millpondlaw04.ViewParts", spec := "viewParts", inPlace := ["internal/abi.NoEscape", "internal/bytealg.MakeNoZero"], unfollowed := true, recurses := true, named := ["math/bits.deBruijn64tab"], apart := false, laid := [("math/bits.deBruijn64tab", laid_math_bits_deBruijn64tab)], narrowed := true }
def ViewPartsUptoSaid : Prop := viewPartsUptoRow.holds Tryd.pinned (OpenSpec.upto viewPartsSpec)

/-- 'millpondlaw05.FieldOf', WHERE WHAT IT READS IS OF BULK AT MOST 1048576: true; the input reads as it did. -/
def fieldOfUptoRow : OpenClaim := { program := "ytghohcgbmceiaaadoor", sum := "e4c8a41a79370ebcb045f12c8796dd33fcddf9a61a9c59bc63ba10fdb3976b7c", func := "millpond/millpondlaw05.FieldOf", spec := "fieldOf", inPlace := ["internal/abi.NoEscape"], unfollowed := true, recurses := true, named := ["math/bits.deBruijn64tab"], apart := false, laid := [("math/bits.deBruijn64tab", laid_math_bits_deBruijn64tab)], narrowed := true }
def FieldOfUptoSaid : Prop := fieldOfUptoRow.holds Tryd.pinned (OpenSpec.upto fieldOfSpec)

/-- 'millpondlaw05.FieldBack', WHERE WHAT IT READS IS OF BULK AT MOST 1048576: true; the input reads as it did. -/
def fieldBackUptoRow : OpenClaim := { program := "ytghohcgbmceiaaadoor", sum := "e4c8a41a79370ebcb045f12c8796dd33fcddf9a61a9c59bc63ba10fdb3976b7c", func := "millpond/millpondlaw05.FieldBack", spec := "fieldBack", inPlace := ["internal/abi.NoEscape"], unfollowed := true, recurses := true, named := ["math/bits.deBruijn64tab"], apart := false, laid := [("math/bits.deBruijn64tab", laid_math_bits_deBruijn64tab)], narrowed := true }
def FieldBackUptoSaid : Prop := fieldBackUptoRow.holds Tryd.pinned (OpenSpec.upto fieldBackSpec)

/-- 'millpondlaw10.ChunkEnds', WHERE WHAT IT READS IS OF BULK AT MOST 1048576: true; the input reads as it did. -/
def chunkEndsUptoRow : OpenClaim := { program := "ytghohcgbmceiaaadoor", sum := "e4c8a41a79370ebcb045f12c8796dd33fcddf9a61a9c59bc63ba10fdb3976b7c", func := "millpond/millpondlaw10.ChunkEnds", spec := "chunkEnds", inPlace := ["internal/abi.NoEscape"], unfollowed := true, recurses := true, named := ["math/bits.deBruijn64tab"], apart := false, laid := [("math/bits.deBruijn64tab", laid_math_bits_deBruijn64tab)], narrowed := true }
def ChunkEndsUptoSaid : Prop := chunkEndsUptoRow.holds Tryd.pinned (OpenSpec.upto chunkEndsSpec)

/-- 'millpondlaw10.ChunkAlone', WHERE WHAT IT READS IS OF BULK AT MOST 1048576: true; the input reads as it did. -/
def chunkAloneUptoRow : OpenClaim := { program := "ytghohcgbmceiaaadoor", sum := "e4c8a41a79370ebcb045f12c8796dd33fcddf9a61a9c59bc63ba10fdb3976b7c", func := "millpond/millpondlaw10.ChunkAlone", spec := "chunkAlone", inPlace := ["internal/abi.NoEscape"], unfollowed := true, recurses := true, named := ["math/bits.deBruijn64tab"], apart := false, laid := [("math/bits.deBruijn64tab", laid_math_bits_deBruijn64tab)], narrowed := true }
def ChunkAloneUptoSaid : Prop := chunkAloneUptoRow.holds Tryd.pinned (OpenSpec.upto chunkAloneSpec)

/-- 'millpondlaw14.ObjectFits', WHERE WHAT IT READS IS OF BULK AT MOST 1048576: true; the input reads as it did. -/
def objectFitsUptoRow : OpenClaim := { program := "ytghohcgbmceiaaadoor", sum := "e4c8a41a79370ebcb045f12c8796dd33fcddf9a61a9c59bc63ba10fdb3976b7c", func := "millpond/millpondlaw14.ObjectFits", spec := "objectFits", inPlace := ["internal/abi.NoEscape"], unfollowed := true, recurses := true, named := ["math/bits.deBruijn64tab"], apart := false, laid := [("math/bits.deBruijn64tab", laid_math_bits_deBruijn64tab)], narrowed := true }
def ObjectFitsUptoSaid : Prop := objectFitsUptoRow.holds Tryd.pinned (OpenSpec.upto objectFitsSpec)

/-- 'millpondlaw14.ObjectNeeds', WHERE WHAT IT READS IS OF BULK AT MOST 1048576: true; the input reads as it did. -/
def objectNeedsUptoRow : OpenClaim := { program := "ytghohcgbmceiaaadoor", sum := "e4c8a41a79370ebcb045f12c8796dd33fcddf9a61a9c59bc63ba10fdb3976b7c", func := "millpond/millpondlaw14.ObjectNeeds", spec := "objectNeeds", inPlace := ["internal/abi.NoEscape"], unfollowed := true, recurses := true, named := ["math/bits.deBruijn64tab"], apart := false, laid := [("math/bits.deBruijn64tab", laid_math_bits_deBruijn64tab)], narrowed := true }
def ObjectNeedsUptoSaid : Prop := objectNeedsUptoRow.holds Tryd.pinned (OpenSpec.upto objectNeedsSpec)

/-- 'millpondlaw06.TagsNone', WHERE WHAT IT READS IS OF BULK AT MOST 1048576: true; the input reads as it did. -/
def tagsNoneUptoRow : OpenClaim := { program := "ytghohcgbmceiaaadoor", sum := "e4c8a41a79370ebcb045f12c8796dd33fcddf9a61a9c59bc63ba10fdb3976b7c", func := "millpond/millpondlaw06.TagsNone", spec := "tagsNone", inPlace := ["internal/abi.NoEscape", "internal/bytealg.MakeNoZero"], unfollowed := true, recurses := true, named := ["math/bits.deBruijn64tab"], apart := false, laid := [("math/bits.deBruijn64tab", laid_math_bits_deBruijn64tab)], narrowed := true }
def TagsNoneUptoSaid : Prop := tagsNoneUptoRow.holds Tryd.pinned (OpenSpec.upto tagsNoneSpec)

/-- 'millpondlaw17.HandleNone', WHERE WHAT IT READS IS OF BULK AT MOST 1048576: true; the input reads as it did. -/
def handleNoneUptoRow : OpenClaim := { program := "ytghohcgbmceiaaadoor", sum := "e4c8a41a79370ebcb045f12c8796dd33fcddf9a61a9c59bc63ba10fdb3976b7c", func := "millpond/millpondlaw17.HandleNone", spec := "handleNone", inPlace := ["internal/abi.NoEscape"], unfollowed := true, recurses := true, named := ["math/bits.deBruijn64tab"], apart := false, laid := [("math/bits.deBruijn64tab", laid_math_bits_deBruijn64tab)], narrowed := true }
def HandleNoneUptoSaid : Prop := handleNoneUptoRow.holds Tryd.pinned (OpenSpec.upto handleNoneSpec)

/-- 'millpondlaw21.CleanNone', WHERE WHAT IT READS IS OF BULK AT MOST 1048576: true; the input reads as it did. -/
def cleanNoneUptoRow : OpenClaim := { program := "ytghohcgbmceiaaadoor", sum := "e4c8a41a79370ebcb045f12c8796dd33fcddf9a61a9c59bc63ba10fdb3976b7c", func := "millpond/millpondlaw21.CleanNone", spec := "cleanNone", inPlace := ["internal/abi.NoEscape"], unfollowed := true, recurses := true, named := ["math/bits.deBruijn64tab"], apart := false, laid := [("math/bits.deBruijn64tab", laid_math_bits_deBruijn64tab)], narrowed := true }
def CleanNoneUptoSaid : Prop := cleanNoneUptoRow.holds Tryd.pinned (OpenSpec.upto cleanNoneSpec)

/-- 'millpondlaw11.BinsNone', WHERE WHAT IT READS IS OF BULK AT MOST 1048576: true; the input reads as it did. -/
def binsNoneUptoRow : OpenClaim := { program := "ytghohcgbmceiaaadoor", sum := "e4c8a41a79370ebcb045f12c8796dd33fcddf9a61a9c59bc63ba10fdb3976b7c", func := "millpond/millpondlaw11.BinsNone", spec := "binsNone", inPlace := ["internal/abi.NoEscape"], unfollowed := true, recurses := true, named := ["math/bits.deBruijn64tab"], apart := false, laid := [("math/bits.deBruijn64tab", laid_math_bits_deBruijn64tab)], narrowed := true }
def BinsNoneUptoSaid : Prop := binsNoneUptoRow.holds Tryd.pinned (OpenSpec.upto binsNoneSpec)

end Rows
end Go.Proofs.YtghohcgbmceiaaaDoor
