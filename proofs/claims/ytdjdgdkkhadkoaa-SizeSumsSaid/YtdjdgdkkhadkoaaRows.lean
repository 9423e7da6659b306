/-
  No cell of these rows narrows 'for every input' (looked for: loops, veiled, ifaces, maps, wideKeys, modest, calm, conditions, laid).
  DERIVED. THE GIVEN ROWS OF THIS SEAT. 4 by the template 'for every input the law returns true; each argument reads behind the call as it read before'; 0 by the template 'total and deterministic' (their statements: YtdjdgdkkhadkoaaTotals.lean).
  GIVEN WITH THE SEED: the statements are not yours to turn. If you find one false, say at which input.
  Laid BY PROGRAM, IN A SANDBOX (cutbox-rows.mjs): the forced cells as the released guide's own fill.sh prints them over the translation 53fee8630cb4aa09… (all of the seat's roots in one cut). By AI agents, Wed Nov 11 2026. No macro, syntax, notation, axiom, sorry.
-/
import Derived.Test.YtdjdgdkkhadkoaaChecked
import GoSem.Claim
import GoSem.ClaimJoined
import GoSem.ClaimMapViews
import Derived.JoinedTies
import Derived.KernelRfl
namespace Go.Proofs.Ytdjdgdkkhadkoaa
/- THE CELL 'sum', in the pinned program and in every row, IS THE sha256 OF THE DUMP (.gsa) THAT YtdjdgdkkhadkoaaProg.lean LOADS. Nothing in Lean hashes anything: it is a label: what it is worth is what the hold of that sum in a sandbox is worth. -/
noncomputable def Try.pinned : Pinned := { name := "ytdjdgdkkhadkoaa", sum := "53fee8630cb4aa09c6bd0c2a520bf2ef2db8fa3acbc665158057e6ba26d459f4", checked := Try.checked }
namespace Rows
def none {H : Type} : Left H := { results := [], args := [] }

/-- 'millpondlaw01.SizeUps': WHATEVER THE INPUT: true; the input reads as it did. -/
def sizeUpsSpec : ChangeSpec := { name := "sizeUps", fn := fun _ => fun
  | [d1, d2] => { results := [.lit (.bool true)], args := [d1, d2] }
  | _ => none }
def sizeUpsRow : OpenClaim := { program := "ytdjdgdkkhadkoaa", sum := "53fee8630cb4aa09c6bd0c2a520bf2ef2db8fa3acbc665158057e6ba26d459f4", func := "millpond/millpondlaw01.SizeUps", spec := "sizeUps", apart := false }
def SizeUpsSaid : Prop := sizeUpsRow.holds Try.pinned (OpenSpec.ofChange sizeUpsSpec)

/-- ITS FALSE NEIGHBOUR: 'it returns false'. Refute it at one input. -/
def sizeUpsWrong : ChangeSpec := { name := "sizeUps", fn := fun _ => fun
  | [d1, d2] => { results := [.lit (.bool false)], args := [d1, d2] }
  | _ => none }
def SizeUpsWrongFalsely : Prop := sizeUpsRow.holds Try.pinned (OpenSpec.ofChange sizeUpsWrong)

/-- 'millpondlaw01.SizeSums': WHATEVER THE INPUT: true; the input reads as it did. -/
def sizeSumsSpec : ChangeSpec := { name := "sizeSums", fn := fun _ => fun
  | [d] => { results := [.lit (.bool true)], args := [d] }
  | _ => none }
def sizeSumsRow : OpenClaim := { program := "ytdjdgdkkhadkoaa", sum := "53fee8630cb4aa09c6bd0c2a520bf2ef2db8fa3acbc665158057e6ba26d459f4", func := "millpond/millpondlaw01.SizeSums", spec := "sizeSums", apart := false }
def SizeSumsSaid : Prop := sizeSumsRow.holds Try.pinned (OpenSpec.ofChange sizeSumsSpec)

/-- ITS FALSE NEIGHBOUR: 'it returns false'. Refute it at one input. -/
def sizeSumsWrong : ChangeSpec := { name := "sizeSums", fn := fun _ => fun
  | [d] => { results := [.lit (.bool false)], args := [d] }
  | _ => none }
def SizeSumsWrongFalsely : Prop := sizeSumsRow.holds Try.pinned (OpenSpec.ofChange sizeSumsWrong)

/-- 'millpondlaw01.SizeOrders': WHATEVER THE INPUT: true; the input reads as it did. -/
def sizeOrdersSpec : ChangeSpec := { name := "sizeOrders", fn := fun _ => fun
  | [d1, d2] => { results := [.lit (.bool true)], args := [d1, d2] }
  | _ => none }
def sizeOrdersRow : OpenClaim := { program := "ytdjdgdkkhadkoaa", sum := "53fee8630cb4aa09c6bd0c2a520bf2ef2db8fa3acbc665158057e6ba26d459f4", func := "millpond/millpondlaw01.SizeOrders", spec := "sizeOrders", apart := false }
def SizeOrdersSaid : Prop := sizeOrdersRow.holds Try.pinned (OpenSpec.ofChange sizeOrdersSpec)

/-- ITS FALSE NEIGHBOUR: 'it returns false'. Refute it at one input. -/
def sizeOrdersWrong : ChangeSpec := { name := "sizeOrders", fn := fun _ => fun
  | [d1, d2] => { results := [.lit (.bool false)], args := [d1, d2] }
  | _ => none }
def SizeOrdersWrongFalsely : Prop := sizeOrdersRow.holds Try.pinned (OpenSpec.ofChange sizeOrdersWrong)

/-- 'millpondlaw01.SizeFits': WHATEVER THE INPUT: true; the input reads as it did. -/
def sizeFitsSpec : ChangeSpec := { name := "sizeFits", fn := fun _ => fun
  | [d1, d2] => { results := [.lit (.bool true)], args := [d1, d2] }
  | _ => none }
def sizeFitsRow : OpenClaim := { program := "ytdjdgdkkhadkoaa", sum := "53fee8630cb4aa09c6bd0c2a520bf2ef2db8fa3acbc665158057e6ba26d459f4", func := "millpond/millpondlaw01.SizeFits", spec := "sizeFits", apart := false }
def SizeFitsSaid : Prop := sizeFitsRow.holds Try.pinned (OpenSpec.ofChange sizeFitsSpec)

/-- ITS FALSE NEIGHBOUR: 'it returns false'. Refute it at one input. -/
def sizeFitsWrong : ChangeSpec := { name := "sizeFits", fn := fun _ => fun
  | [d1, d2] => { results := [.lit (.bool false)], args := [d1, d2] }
  | _ => none }
def SizeFitsWrongFalsely : Prop := sizeFitsRow.holds Try.pinned (OpenSpec.ofChange sizeFitsWrong)

/- THE SECOND FORM. 'bulk': how many values and letters a reading holds, each counted each time it is reached (what is shared counts as often as it is met; a slice's spare places count too). A statement '..UptoSaid' is the law's where the arguments, and the package variables that the reading takes, are together of bulk at most 1048576: NARROWER than '..Said'. Prove '..Said' where nothing that the law and all that it calls make is longer than what came in: it says more and counts as full. Else prove '..UptoSaid'. A law counts once. -/
mutual
def uptoBulk {H : Type} : DataW H → Nat
  | .lit (.string bytes) => bytes.length + 1
  | .lit _ => 1
  | .nil => 1
  | .ptr d => uptoBulk d + 1
  | .slice elems spare => uptoBulkAll elems + uptoBulkAll spare + 1
  | .agg parts => uptoBulkAll parts + 1
  | .iface _ d => uptoBulk d + 1
  | .map entries => uptoBulkEntries entries + 1
  | .held _ => 1
def uptoBulkAll {H : Type} : List (DataW H) → Nat
  | [] => 0
  | d :: r => uptoBulk d + uptoBulkAll r
def uptoBulkEntries {H : Type} : List (Lit × DataW H) → Nat
  | [] => 0
  | x :: r => uptoBulkEntry x + uptoBulkEntries r
def uptoBulkEntry {H : Type} : Lit × DataW H → Nat
  | (.string bytes, d) => bytes.length + uptoBulk d + 1
  | (_, d) => uptoBulk d + 1
 end
def uptoSmall : (H : Type) → List (DataW H) → Bool := fun _ ds => decide (uptoBulkAll ds ≤ 1048576)
def OpenSpec.upto (s : _root_.Go.ChangeSpec) : _root_.Go.OpenSpec := { _root_.Go.OpenSpec.ofChange s with cond := some uptoSmall }

/-- 'millpondlaw01.SizeUps', WHERE WHAT IT READS IS OF BULK AT MOST 1048576: true; the input reads as it did. -/
def sizeUpsUptoRow : OpenClaim := { program := "ytdjdgdkkhadkoaa", sum := "53fee8630cb4aa09c6bd0c2a520bf2ef2db8fa3acbc665158057e6ba26d459f4", func := "millpond/millpondlaw01.SizeUps", spec := "sizeUps", apart := false, narrowed := true }
def SizeUpsUptoSaid : Prop := sizeUpsUptoRow.holds Try.pinned (OpenSpec.upto sizeUpsSpec)

/-- 'millpondlaw01.SizeSums', WHERE WHAT IT READS IS OF BULK AT MOST 1048576: true; the input reads as it did. -/
def sizeSumsUptoRow : OpenClaim := { program := "ytdjdgdkkhadkoaa", sum := "53fee8630cb4aa09c6bd0c2a520bf2ef2db8fa3acbc665158057e6ba26d459f4", func := "millpond/millpondlaw01.SizeSums", spec := "sizeSums", apart := false, narrowed := true }
def SizeSumsUptoSaid : Prop := sizeSumsUptoRow.holds Try.pinned (OpenSpec.upto sizeSumsSpec)

/-- 'millpondlaw01.SizeOrders', WHERE WHAT IT READS IS OF BULK AT MOST 1048576: true; the input reads as it did. -/
def sizeOrdersUptoRow : OpenClaim := { program := "ytdjdgdkkhadkoaa", sum := "53fee8630cb4aa09c6bd0c2a520bf2ef2db8fa3acbc665158057e6ba26d459f4", func := "millpond/millpondlaw01.SizeOrders", spec := "sizeOrders", apart := false, narrowed := true }
def SizeOrdersUptoSaid : Prop := sizeOrdersUptoRow.holds Try.pinned (OpenSpec.upto sizeOrdersSpec)

/-- 'millpondlaw01.SizeFits', WHERE WHAT IT READS IS OF BULK AT MOST 1048576: true; the input reads as it did. -/
def sizeFitsUptoRow : OpenClaim := { program := "ytdjdgdkkhadkoaa", sum := "53fee8630cb4aa09c6bd0c2a520bf2ef2db8fa3acbc665158057e6ba26d459f4", func := "millpond/millpondlaw01.SizeFits", spec := "sizeFits", apart := false, narrowed := true }
def SizeFitsUptoSaid : Prop := sizeFitsUptoRow.holds Try.pinned (OpenSpec.upto sizeFitsSpec)

end Rows
end Go.Proofs.Ytdjdgdkkhadkoaa
