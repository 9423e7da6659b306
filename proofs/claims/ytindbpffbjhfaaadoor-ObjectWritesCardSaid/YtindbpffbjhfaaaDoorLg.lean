/-
  What comes in: rows of anything; of bytes, of bools.
-/
import Derived.Test.YtindbpffbjhfaaaDoorLe
import Derived.Test.YtindbpffbjhfaaaDoorJb
namespace Go.Proofs.YtindbpffbjhfaaaDoor.K
open Go.ChangeShapes Go.WideShapes Go.ChangeAt Go.RowKit
set_option linter.unusedVariables false
set_option linter.unusedSimpArgs false
section
variable {H : Type} {enc : TypeId × Value → H} {w : World} {sp : Nat → Bool} {held : Bool} {P : Program}

end
end Go.Proofs.YtindbpffbjhfaaaDoor.K
