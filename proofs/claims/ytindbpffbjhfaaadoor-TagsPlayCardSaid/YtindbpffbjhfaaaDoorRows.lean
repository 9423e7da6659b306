/-
  NARROWER THAN 'FOR EVERY INPUT', by the rows' own cells (each row's printed sentence says how): ListWrong: laid · ListOrder: laid · ListPlays: laid · ObjectWrites: laid · ChunkPlays: laid · DataTells: laid · DataOrder: laid · CleanPlays: laid · BinsPlay: laid · HandlePlays: laid · TagsPlay: laid.
  DERIVED. THE GIVEN ROWS OF THIS SEAT. 11 by the template 'for every input the law returns true; each argument reads behind the call as it read before'; 0 by the template 'total and deterministic' (their statements: YtindbpffbjhfaaaDoorTotals.lean).
  GIVEN WITH THE SEED: the statements are not yours to turn. If you find one false, say at which input.
  Laid BY PROGRAM, IN A SANDBOX (cutbox-rows.mjs): the forced cells as the released guide's own fill.sh prints them over the translation f0bc61d19727e762… (all of the seat's roots in one cut). By AI agents, Wed Nov 11 2026. No macro, syntax, notation, axiom, sorry.
-/
import Derived.Test.YtindbpffbjhfaaaDoorChecked
import GoSem.Claim
import GoSem.ClaimJoined
import GoSem.ClaimMapViews
import Derived.JoinedTies
import Derived.KernelRfl
namespace Go.Proofs.YtindbpffbjhfaaaDoor
/- THE CELL 'sum', in the pinned program and in every row, IS THE sha256 OF THE DUMP (.gsa) THAT YtindbpffbjhfaaaDoorProg.lean LOADS. Nothing in Lean hashes anything: it is a label: what it is worth is what the hold of that sum in a sandbox is worth. -/
noncomputable def Tryd.pinned : Pinned := { name := "ytindbpffbjhfaaadoor", sum := "f0bc61d19727e7627aab8dcf36f941edafe4b80ba52b4b6f93cde7cdc2f7c70a", checked := Tryd.checked }
namespace Rows
def none {H : Type} : Left H := { results := [], args := [] }

/- WHAT THE LISTED PACKAGE-LEVEL VARIABLES READ AS WHEN THE CALL BEGINS. Each datum BY PROGRAM (the guide's laid-datum.mjs) off the statement by which the dump's own 'gosem.cut.vars' lays the variable. In a bare row this is a premise. The card (YtindbpffbjhfaaaDoorCards.lean) ties it to the program's text. -/
def laid_math_bits_deBruijn64tab {H : Type} : DataW H := .agg [.lit (.int .u8 0), .lit (.int .u8 1), .lit (.int .u8 56), .lit (.int .u8 2), .lit (.int .u8 57), .lit (.int .u8 49), .lit (.int .u8 28), .lit (.int .u8 3), .lit (.int .u8 61), .lit (.int .u8 58), .lit (.int .u8 42), .lit (.int .u8 50), .lit (.int .u8 38), .lit (.int .u8 29), .lit (.int .u8 17), .lit (.int .u8 4), .lit (.int .u8 62), .lit (.int .u8 47), .lit (.int .u8 59), .lit (.int .u8 36), .lit (.int .u8 45), .lit (.int .u8 43), .lit (.int .u8 51), .lit (.int .u8 22), .lit (.int .u8 53), .lit (.int .u8 39), .lit (.int .u8 33), .lit (.int .u8 30), .lit (.int .u8 24), .lit (.int .u8 18), .lit (.int .u8 12), .lit (.int .u8 5), .lit (.int .u8 63), .lit (.int .u8 55), .lit (.int .u8 48), .lit (.int .u8 27), .lit (.int .u8 60), .lit (.int .u8 41), .lit (.int .u8 37), .lit (.int .u8 16), .lit (.int .u8 46), .lit (.int .u8 35), .lit (.int .u8 44), .lit (.int .u8 21), .lit (.int .u8 52), .lit (.int .u8 32), .lit (.int .u8 23), .lit (.int .u8 11), .lit (.int .u8 54), .lit (.int .u8 26), .lit (.int .u8 40), .lit (.int .u8 15), .lit (.int .u8 34), .lit (.int .u8 20), .lit (.int .u8 31), .lit (.int .u8 10), .lit (.int .u8 25), .lit (.int .u8 14), .lit (.int .u8 19), .lit (.int .u8 9), .lit (.int .u8 13), .lit (.int .u8 8), .lit (.int .u8 7), .lit (.int .u8 6)]

/-- 'millpondlaw07.ListWrong': WHATEVER THE INPUT: true; the input reads as it did. -/
def listWrongSpec : ChangeSpec := { name := "listWrong", fn := fun _ => fun
  | [d1, d2] => { results := [.lit (.bool true)], args := [d1, d2] }
  | _ => none }
def listWrongRow : OpenClaim := { program := "ytindbpffbjhfaaadoor", sum := "f0bc61d19727e7627aab8dcf36f941edafe4b80ba52b4b6f93cde7cdc2f7c70a", func := "millpond/millpondlaw07.ListWrong", spec := "listWrong", inPlace := ["internal/abi.NoEscape"], unfollowed := true, recurses := true, named := ["math/bits.deBruijn64tab"], apart := false, laid := [("math/bits.deBruijn64tab", laid_math_bits_deBruijn64tab)] }
def ListWrongSaid : Prop := listWrongRow.holds Tryd.pinned (OpenSpec.ofChange listWrongSpec)

/-- ITS FALSE NEIGHBOUR: 'it returns false'. Refute it at one input. -/
def listWrongWrong : ChangeSpec := { name := "listWrong", fn := fun _ => fun
  | [d1, d2] => { results := [.lit (.bool false)], args := [d1, d2] }
  | _ => none }
def ListWrongWrongFalsely : Prop := listWrongRow.holds Tryd.pinned (OpenSpec.ofChange listWrongWrong)

/-- 'millpondlaw07.ListOrder': WHATEVER THE INPUT: true; the input reads as it did. -/
def listOrderSpec : ChangeSpec := { name := "listOrder", fn := fun _ => fun
  | [d] => { results := [.lit (.bool true)], args := [d] }
  | _ => none }
def listOrderRow : OpenClaim := { program := "ytindbpffbjhfaaadoor", sum := "f0bc61d19727e7627aab8dcf36f941edafe4b80ba52b4b6f93cde7cdc2f7c70a", func := "millpond/millpondlaw07.ListOrder", spec := "listOrder", inPlace := ["internal/abi.NoEscape"], unfollowed := true, recurses := true, named := ["math/bits.deBruijn64tab"], apart := false, laid := [("math/bits.deBruijn64tab", laid_math_bits_deBruijn64tab)] }
def ListOrderSaid : Prop := listOrderRow.holds Tryd.pinned (OpenSpec.ofChange listOrderSpec)

/-- ITS FALSE NEIGHBOUR: 'it returns false'. Refute it at one input. -/
def listOrderWrong : ChangeSpec := { name := "listOrder", fn := fun _ => fun
  | [d] => { results := [.lit (.bool false)], args := [d] }
  | _ => none }
def ListOrderWrongFalsely : Prop := listOrderRow.holds Tryd.pinned (OpenSpec.ofChange listOrderWrong)

/-- 'millpondlaw07.ListPlays': WHATEVER THE INPUT: true; the input reads as it did. -/
def listPlaysSpec : ChangeSpec := { name := "listPlays", fn := fun _ => fun
  | [d1, d2] => { results := [.lit (.bool true)], args := [d1, d2] }
  | _ => none }
def listPlaysRow : OpenClaim := { program := "ytindbpffbjhfaaadoor", sum := "f0bc61d19727e7627aab8dcf36f941edafe4b80ba52b4b6f93cde7cdc2f7c70a", func := "millpond/millpondlaw07.ListPlays", spec := "listPlays", inPlace := ["internal/abi.NoEscape"], unfollowed := true, recurses := true, named := ["math/bits.deBruijn64tab"], apart := false, laid := [("math/bits.deBruijn64tab", laid_math_bits_deBruijn64tab)] }
def ListPlaysSaid : Prop := listPlaysRow.holds Tryd.pinned (OpenSpec.ofChange listPlaysSpec)

/-- ITS FALSE NEIGHBOUR: 'it returns false'. Refute it at one input. -/
def listPlaysWrong : ChangeSpec := { name := "listPlays", fn := fun _ => fun
  | [d1, d2] => { results := [.lit (.bool false)], args := [d1, d2] }
  | _ => none }
def ListPlaysWrongFalsely : Prop := listPlaysRow.holds Tryd.pinned (OpenSpec.ofChange listPlaysWrong)

/-- 'millpondlaw14.ObjectWrites': WHATEVER THE INPUT: true; the input reads as it did. -/
def objectWritesSpec : ChangeSpec := { name := "objectWrites", fn := fun _ => fun
  | [d1, d2] => { results := [.lit (.bool true)], args := [d1, d2] }
  | _ => none }
def objectWritesRow : OpenClaim := { program := "ytindbpffbjhfaaadoor", sum := "f0bc61d19727e7627aab8dcf36f941edafe4b80ba52b4b6f93cde7cdc2f7c70a", func := "millpond/millpondlaw14.ObjectWrites", spec := "objectWrites", inPlace := ["internal/abi.NoEscape"], unfollowed := true, recurses := true, named := ["math/bits.deBruijn64tab"], apart := false, laid := [("math/bits.deBruijn64tab", laid_math_bits_deBruijn64tab)] }
def ObjectWritesSaid : Prop := objectWritesRow.holds Tryd.pinned (OpenSpec.ofChange objectWritesSpec)

/-- ITS FALSE NEIGHBOUR: 'it returns false'. Refute it at one input. -/
def objectWritesWrong : ChangeSpec := { name := "objectWrites", fn := fun _ => fun
  | [d1, d2] => { results := [.lit (.bool false)], args := [d1, d2] }
  | _ => none }
def ObjectWritesWrongFalsely : Prop := objectWritesRow.holds Tryd.pinned (OpenSpec.ofChange objectWritesWrong)

/-- 'millpondlaw10.ChunkPlays': WHATEVER THE INPUT: true; the input reads as it did. -/
def chunkPlaysSpec : ChangeSpec := { name := "chunkPlays", fn := fun _ => fun
  | [d] => { results := [.lit (.bool true)], args := [d] }
  | _ => none }
def chunkPlaysRow : OpenClaim := { program := "ytindbpffbjhfaaadoor", sum := "f0bc61d19727e7627aab8dcf36f941edafe4b80ba52b4b6f93cde7cdc2f7c70a", func := "millpond/millpondlaw10.ChunkPlays", spec := "chunkPlays", inPlace := ["internal/abi.NoEscape"], unfollowed := true, recurses := true, named := ["math/bits.deBruijn64tab"], apart := false, laid := [("math/bits.deBruijn64tab", laid_math_bits_deBruijn64tab)] }
def ChunkPlaysSaid : Prop := chunkPlaysRow.holds Tryd.pinned (OpenSpec.ofChange chunkPlaysSpec)

/-- ITS FALSE NEIGHBOUR: 'it returns false'. Refute it at one input. -/
def chunkPlaysWrong : ChangeSpec := { name := "chunkPlays", fn := fun _ => fun
  | [d] => { results := [.lit (.bool false)], args := [d] }
  | _ => none }
def ChunkPlaysWrongFalsely : Prop := chunkPlaysRow.holds Tryd.pinned (OpenSpec.ofChange chunkPlaysWrong)

/-- 'millpondlaw22.DataTells': WHATEVER THE INPUT: true; the input reads as it did. -/
def dataTellsSpec : ChangeSpec := { name := "dataTells", fn := fun _ => fun
  | [d] => { results := [.lit (.bool true)], args := [d] }
  | _ => none }
def dataTellsRow : OpenClaim := { program := "ytindbpffbjhfaaadoor", sum := "f0bc61d19727e7627aab8dcf36f941edafe4b80ba52b4b6f93cde7cdc2f7c70a", func := "millpond/millpondlaw22.DataTells", spec := "dataTells", inPlace := ["internal/abi.NoEscape"], unfollowed := true, recurses := true, named := ["math/bits.deBruijn64tab"], apart := false, laid := [("math/bits.deBruijn64tab", laid_math_bits_deBruijn64tab)] }
def DataTellsSaid : Prop := dataTellsRow.holds Tryd.pinned (OpenSpec.ofChange dataTellsSpec)

/-- ITS FALSE NEIGHBOUR: 'it returns false'. Refute it at one input. -/
def dataTellsWrong : ChangeSpec := { name := "dataTells", fn := fun _ => fun
  | [d] => { results := [.lit (.bool false)], args := [d] }
  | _ => none }
def DataTellsWrongFalsely : Prop := dataTellsRow.holds Tryd.pinned (OpenSpec.ofChange dataTellsWrong)

/-- 'millpondlaw22.DataOrder': WHATEVER THE INPUT: true; the input reads as it did. -/
def dataOrderSpec : ChangeSpec := { name := "dataOrder", fn := fun _ => fun
  | [d] => { results := [.lit (.bool true)], args := [d] }
  | _ => none }
def dataOrderRow : OpenClaim := { program := "ytindbpffbjhfaaadoor", sum := "f0bc61d19727e7627aab8dcf36f941edafe4b80ba52b4b6f93cde7cdc2f7c70a", func := "millpond/millpondlaw22.DataOrder", spec := "dataOrder", inPlace := ["internal/abi.NoEscape"], unfollowed := true, recurses := true, named := ["math/bits.deBruijn64tab"], apart := false, laid := [("math/bits.deBruijn64tab", laid_math_bits_deBruijn64tab)] }
def DataOrderSaid : Prop := dataOrderRow.holds Tryd.pinned (OpenSpec.ofChange dataOrderSpec)

/-- ITS FALSE NEIGHBOUR: 'it returns false'. Refute it at one input. -/
def dataOrderWrong : ChangeSpec := { name := "dataOrder", fn := fun _ => fun
  | [d] => { results := [.lit (.bool false)], args := [d] }
  | _ => none }
def DataOrderWrongFalsely : Prop := dataOrderRow.holds Tryd.pinned (OpenSpec.ofChange dataOrderWrong)

/-- 'millpondlaw21.CleanPlays': WHATEVER THE INPUT: true; the input reads as it did. -/
def cleanPlaysSpec : ChangeSpec := { name := "cleanPlays", fn := fun _ => fun
  | [d1, d2] => { results := [.lit (.bool true)], args := [d1, d2] }
  | _ => none }
def cleanPlaysRow : OpenClaim := { program := "ytindbpffbjhfaaadoor", sum := "f0bc61d19727e7627aab8dcf36f941edafe4b80ba52b4b6f93cde7cdc2f7c70a", func := "millpond/millpondlaw21.CleanPlays", spec := "cleanPlays", inPlace := ["internal/abi.NoEscape"], unfollowed := true, recurses := true, named := ["math/bits.deBruijn64tab"], apart := false, laid := [("math/bits.deBruijn64tab", laid_math_bits_deBruijn64tab)] }
def CleanPlaysSaid : Prop := cleanPlaysRow.holds Tryd.pinned (OpenSpec.ofChange cleanPlaysSpec)

/-- ITS FALSE NEIGHBOUR: 'it returns false'. Refute it at one input. -/
def cleanPlaysWrong : ChangeSpec := { name := "cleanPlays", fn := fun _ => fun
  | [d1, d2] => { results := [.lit (.bool false)], args := [d1, d2] }
  | _ => none }
def CleanPlaysWrongFalsely : Prop := cleanPlaysRow.holds Tryd.pinned (OpenSpec.ofChange cleanPlaysWrong)

/-- 'millpondlaw11.BinsPlay': WHATEVER THE INPUT: true; the input reads as it did. -/
def binsPlaySpec : ChangeSpec := { name := "binsPlay", fn := fun _ => fun
  | [d] => { results := [.lit (.bool true)], args := [d] }
  | _ => none }
def binsPlayRow : OpenClaim := { program := "ytindbpffbjhfaaadoor", sum := "f0bc61d19727e7627aab8dcf36f941edafe4b80ba52b4b6f93cde7cdc2f7c70a", func := "millpond/millpondlaw11.BinsPlay", spec := "binsPlay", inPlace := ["internal/abi.NoEscape"], unfollowed := true, recurses := true, named := ["math/bits.deBruijn64tab"], apart := false, laid := [("math/bits.deBruijn64tab", laid_math_bits_deBruijn64tab)] }
def BinsPlaySaid : Prop := binsPlayRow.holds Tryd.pinned (OpenSpec.ofChange binsPlaySpec)

/-- ITS FALSE NEIGHBOUR: 'it returns false'. Refute it at one input. -/
def binsPlayWrong : ChangeSpec := { name := "binsPlay", fn := fun _ => fun
  | [d] => { results := [.lit (.bool false)], args := [d] }
  | _ => none }
def BinsPlayWrongFalsely : Prop := binsPlayRow.holds Tryd.pinned (OpenSpec.ofChange binsPlayWrong)

/-- 'millpondlaw17.HandlePlays': WHATEVER THE INPUT: true; the input reads as it did. -/
def handlePlaysSpec : ChangeSpec := { name := "handlePlays", fn := fun _ => fun
  | [d1, d2] => { results := [.lit (.bool true)], args := [d1, d2] }
  | _ => none }
def handlePlaysRow : OpenClaim := { program := "ytindbpffbjhfaaadoor", sum := "f0bc61d19727e7627aab8dcf36f941edafe4b80ba52b4b6f93cde7cdc2f7c70a", func := "millpond/millpondlaw17.HandlePlays", spec := "handlePlays", inPlace := ["internal/abi.NoEscape"], unfollowed := true, recurses := true, named := ["math/bits.deBruijn64tab"], apart := false, laid := [("math/bits.deBruijn64tab", laid_math_bits_deBruijn64tab)] }
def HandlePlaysSaid : Prop := handlePlaysRow.holds Tryd.pinned (OpenSpec.ofChange handlePlaysSpec)

/-- ITS FALSE NEIGHBOUR: 'it returns false'. Refute it at one input. -/
def handlePlaysWrong : ChangeSpec := { name := "handlePlays", fn := fun _ => fun
  | [d1, d2] => { results := [.lit (.bool false)], args := [d1, d2] }
  | _ => none }
def HandlePlaysWrongFalsely : Prop := handlePlaysRow.holds Tryd.pinned (OpenSpec.ofChange handlePlaysWrong)

/-- 'millpondlaw06.TagsPlay': WHATEVER THE INPUT: true; the input reads as it did. -/
def tagsPlaySpec : ChangeSpec := { name := "tagsPlay", fn := fun _ => fun
  | [d1, d2] => { results := [.lit (.bool true)], args := [d1, d2] }
  | _ => none }
def tagsPlayRow : OpenClaim := { program := "ytindbpffbjhfaaadoor", sum := "f0bc61d19727e7627aab8dcf36f941edafe4b80ba52b4b6f93cde7cdc2f7c70a", func := "millpond/millpondlaw06.TagsPlay", spec := "tagsPlay", inPlace := ["internal/abi.NoEscape", "internal/bytealg.MakeNoZero"], unfollowed := true, recurses := true, named := ["math/bits.deBruijn64tab"], apart := false, laid := [("math/bits.deBruijn64tab", laid_math_bits_deBruijn64tab)] }
def TagsPlaySaid : Prop := tagsPlayRow.holds Tryd.pinned (OpenSpec.ofChange tagsPlaySpec)

/-- ITS FALSE NEIGHBOUR: 'it returns false'. Refute it at one input. -/
def tagsPlayWrong : ChangeSpec := { name := "tagsPlay", fn := fun _ => fun
  | [d1, d2] => { results := [.lit (.bool false)], args := [d1, d2] }
  | _ => none }
def TagsPlayWrongFalsely : Prop := tagsPlayRow.holds Tryd.pinned (OpenSpec.ofChange tagsPlayWrong)

/- THE SECOND FORM. 'bulk': how many values and letters a reading holds, each counted each time it is reached (what is shared counts as often as it is met; a slice's spare places count too). A statement '..UptoSaid' is the law's where the arguments, and the package variables that the reading takes, are together of bulk at most 1048576: NARROWER than '..Said'. Prove '..Said' where nothing that the law and all that it calls make is longer than what came in: it says more and counts as full. Else prove '..UptoSaid'. A law counts once. -/
mutual
def uptoBulk {H : Type} : DataW H → Nat
  | .lit (.string bytes) => bytes.length + 1
  | .lit _ => 1
  | .nil => 1
  | .ptr d => uptoBulk d + 1
  | .slice elems spare => uptoBulkAll elems + uptoBulkAll spare + 1
  | .agg parts => uptoBulkAll parts + 1
  | .iface _ d => uptoBulk d + 1
  | .map entries => uptoBulkEntries entries + 1
  | .held _ => 1
def uptoBulkAll {H : Type} : List (DataW H) → Nat
  | [] => 0
  | d :: r => uptoBulk d + uptoBulkAll r
def uptoBulkEntries {H : Type} : List (Lit × DataW H) → Nat
  | [] => 0
  | x :: r => uptoBulkEntry x + uptoBulkEntries r
def uptoBulkEntry {H : Type} : Lit × DataW H → Nat
  | (.string bytes, d) => bytes.length + uptoBulk d + 1
  | (_, d) => uptoBulk d + 1
 end
def uptoSmall : (H : Type) → List (DataW H) → Bool := fun _ ds => decide (uptoBulkAll ds ≤ 1048576)
def OpenSpec.upto (s : _root_.Go.ChangeSpec) : _root_.Go.OpenSpec := { _root_.Go.OpenSpec.ofChange s with cond := some uptoSmall }

/-- 'millpondlaw07.ListWrong', WHERE WHAT IT READS IS OF BULK AT MOST 1048576: true; the input reads as it did. -/
def listWrongUptoRow : OpenClaim := { program := "ytindbpffbjhfaaadoor", sum := "f0bc61d19727e7627aab8dcf36f941edafe4b80ba52b4b6f93cde7cdc2f7c70a", func := "millpond/millpondlaw07.ListWrong", spec := "listWrong", inPlace := ["internal/abi.NoEscape"], unfollowed := true, recurses := true, named := ["math/bits.deBruijn64tab"], apart := false, laid := [("math/bits.deBruijn64tab", laid_math_bits_deBruijn64tab)], narrowed := true }
def ListWrongUptoSaid : Prop := listWrongUptoRow.holds Tryd.pinned (OpenSpec.upto listWrongSpec)

/-- 'millpondlaw07.ListOrder', WHERE WHAT IT READS IS OF BULK AT MOST 1048576: true; the input reads as it did. -/
def listOrderUptoRow : OpenClaim := { program := "ytindbpffbjhfaaadoor", sum := "f0bc61d19727e7627aab8dcf36f941edafe4b80ba52b4b6f93cde7cdc2f7c70a", func := "millpond/millpondlaw07.ListOrder", spec := "listOrder", inPlace := ["internal/abi.NoEscape"], unfollowed := true, recurses := true, named := ["math/bits.deBruijn64tab"], apart := false, laid := [("math/bits.deBruijn64tab", laid_math_bits_deBruijn64tab)], narrowed := true }
def ListOrderUptoSaid : Prop := listOrderUptoRow.holds Tryd.pinned (OpenSpec.upto listOrderSpec)

/-- 'millpondlaw07.ListPlays', WHERE WHAT IT READS IS OF BULK AT MOST 1048576: true; the input reads as it did. -/
def listPlaysUptoRow : OpenClaim := { program := "ytindbpffbjhfaaadoor", sum := "f0bc61d19727e7627aab8dcf36f941edafe4b80ba52b4b6f93cde7cdc2f7c70a", func := "millpond/millpondlaw07.ListPlays", spec := "listPlays", inPlace := ["internal/abi.NoEscape"], unfollowed := true, recurses := true, named := ["math/bits.deBruijn64tab"], apart := false, laid := [("math/bits.deBruijn64tab", laid_math_bits_deBruijn64tab)], narrowed := true }
def ListPlaysUptoSaid : Prop := listPlaysUptoRow.holds Tryd.pinned (OpenSpec.upto listPlaysSpec)

/-- 'millpondlaw14.ObjectWrites', WHERE WHAT IT READS IS OF BULK AT MOST 1048576: true; the input reads as it did. -/
def objectWritesUptoRow : OpenClaim := { program := "ytindbpffbjhfaaadoor", sum := "f0bc61d19727e7627aab8dcf36f941edafe4b80ba52b4b6f93cde7cdc2f7c70a", func := "millpond/millpondlaw14.ObjectWrites", spec := "objectWrites", inPlace := ["internal/abi.NoEscape"], unfollowed := true, recurses := true, named := ["math/bits.deBruijn64tab"], apart := false, laid := [("math/bits.deBruijn64tab", laid_math_bits_deBruijn64tab)], narrowed := true }
def ObjectWritesUptoSaid : Prop := objectWritesUptoRow.holds Tryd.pinned (OpenSpec.upto objectWritesSpec)

/-- 'millpondlaw10.ChunkPlays', WHERE WHAT IT READS IS OF BULK AT MOST 1048576: true; the input reads as it did. -/
def chunkPlaysUptoRow : OpenClaim := { program := "ytindbpffbjhfaaadoor", sum := "f0bc61d19727e7627aab8dcf36f941edafe4b80ba52b4b6f93cde7cdc2f7c70a", func := "millpond/millpondlaw10.ChunkPlays", spec := "chunkPlays", inPlace := ["internal/abi.NoEscape"], unfollowed := true, recurses := true, named := ["math/bits.deBruijn64tab"], apart := false, laid := [("math/bits.deBruijn64tab", laid_math_bits_deBruijn64tab)], narrowed := true }
def ChunkPlaysUptoSaid : Prop := chunkPlaysUptoRow.holds Tryd.pinned (OpenSpec.upto chunkPlaysSpec)

/-- 'millpondlaw22.DataTells', WHERE WHAT IT READS IS OF BULK AT MOST 1048576: true; the input reads as it did. -/
def dataTellsUptoRow : OpenClaim := { program := "ytindbpffbjhfaaadoor", sum := "f0bc61d19727e7627aab8dcf36f941edafe4b80ba52b4b6f93cde7cdc2f7c70a", func := "millpond/millpondlaw22.DataTells", spec := "dataTells", inPlace := ["internal/abi.NoEscape"], unfollowed := true, recurses := true, named := ["math/bits.deBruijn64tab"], apart := false, laid := [("math/bits.deBruijn64tab", laid_math_bits_deBruijn64tab)], narrowed := true }
def DataTellsUptoSaid : Prop := dataTellsUptoRow.holds Tryd.pinned (OpenSpec.upto dataTellsSpec)

/-- 'millpondlaw22.DataOrder', WHERE WHAT IT READS IS OF BULK AT MOST 1048576: true; the input reads as it did. -/
def dataOrderUptoRow : OpenClaim := { program := "ytindbpffbjhfaaadoor", sum := "f0bc61d19727e7627aab8dcf36f941edafe4b80ba52b4b6f93cde7cdc2f7c70a", func := "millpond/millpondlaw22.DataOrder", spec := "dataOrder", inPlace := ["internal/abi.NoEscape"], unfollowed := true, recurses := true, named := ["math/bits.deBruijn64tab"], apart := false, laid := [("math/bits.deBruijn64tab", laid_math_bits_deBruijn64tab)], narrowed := true }
def DataOrderUptoSaid : Prop := dataOrderUptoRow.holds Tryd.pinned (OpenSpec.upto dataOrderSpec)

/-- 'millpondlaw21.CleanPlays', WHERE WHAT IT READS IS OF BULK AT MOST 1048576: true; the input reads as it did. -/
def cleanPlaysUptoRow : OpenClaim := { program := "ytindbpffbjhfaaadoor", sum := "f0bc61d19727e7627aab8dcf36f941edafe4b80ba52b4b6f93cde7cdc2f7c70a", func := "millpond/millpondlaw21.CleanPlays", spec := "cleanPlays", inPlace := ["internal/abi.NoEscape"], unfollowed := true, recurses := true, named := ["math/bits.deBruijn64tab"], apart := false, laid := [("math/bits.deBruijn64tab", laid_math_bits_deBruijn64tab)], narrowed := true }
def CleanPlaysUptoSaid : Prop := cleanPlaysUptoRow.holds Tryd.pinned (OpenSpec.upto cleanPlaysSpec)

/-- 'millpondlaw11.BinsPlay', WHERE WHAT IT READS IS OF BULK AT MOST 1048576: true; the input reads as it did. -/
def binsPlayUptoRow : OpenClaim := { program := "ytindbpffbjhfaaadoor", sum := "f0bc61d19727e7627aab8dcf36f941edafe4b80ba52b4b6f93cde7cdc2f7c70a", func := "millpond/millpondlaw11.BinsPlay", spec := "binsPlay", inPlace := ["internal/abi.NoEscape"], unfollowed := true, recurses := true, named := ["math/bits.deBruijn64tab"], apart := false, laid := [("math/bits.deBruijn64tab", laid_math_bits_deBruijn64tab)], narrowed := true }
def BinsPlayUptoSaid : Prop := binsPlayUptoRow.holds Tryd.pinned (OpenSpec.upto binsPlaySpec)

/-- 'millpondlaw17.HandlePlays', WHERE WHAT IT READS IS OF BULK AT MOST 1048576: true; the input reads as it did. -/
def handlePlaysUptoRow : OpenClaim := { program := "ytindbpffbjhfaaadoor", sum := "f0bc61d19727e7627aab8dcf36f941edafe4b80ba52b4b6f93cde7cdc2f7c70a", func := "millpond/millpondlaw17.HandlePlays", spec := "handlePlays", inPlace := ["internal/abi.NoEscape"], unfollowed := true, recurses := true, named := ["math/bits.deBruijn64tab"], apart := false, laid := [("math/bits.deBruijn64tab", laid_math_bits_deBruijn64tab)], narrowed := true }
def HandlePlaysUptoSaid : Prop := handlePlaysUptoRow.holds Tryd.pinned (OpenSpec.upto handlePlaysSpec)

/-- 'millpondlaw06.TagsPlay', WHERE WHAT IT READS IS OF BULK AT MOST 1048576: true; the input reads as it did. -/
def tagsPlayUptoRow : OpenClaim := { program := "ytindbpffbjhfaaadoor", sum := "f0bc61d19727e7627aab8dcf36f941edafe4b80ba52b4b6f93cde7cdc2f7c70a", func := "millpond/millpondlaw06.TagsPlay", spec := "tagsPlay", inPlace := ["internal/abi.NoEscape", "internal/bytealg.MakeNoZero"], unfollowed := true, recurses := true, named := ["math/bits.deBruijn64tab"], apart := false, laid := [("math/bits.deBruijn64tab", laid_math_bits_deBruijn64tab)], narrowed := true }
def TagsPlayUptoSaid : Prop := tagsPlayUptoRow.holds Tryd.pinned (OpenSpec.upto tagsPlaySpec)

end Rows
end Go.Proofs.YtindbpffbjhfaaaDoor
