/-
  What comes in: chunks; the bounds of small numbers.
-/
import Derived.Test.YthgkiieenojcpaaDoorLd
import Derived.Test.YthgkiieenojcpaaDoorM4
namespace Go.Proofs.YthgkiieenojcpaaDoor.K
open Go.ChangeShapes Go.WideShapes Go.ChangeAt Go.RowKit
set_option linter.unusedVariables false
set_option linter.unusedSimpArgs false
section
variable {H : Type} {enc : TypeId × Value → H} {w : World} {sp : Nat → Bool} {held : Bool}

end
end Go.Proofs.YthgkiieenojcpaaDoor.K
