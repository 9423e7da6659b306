/-
  What comes in: rows of structs.
-/
import Derived.Test.YtnbkafnikpbmbaaDoorM5
import Derived.Test.YtnbkafnikpbmbaaDoorLg
namespace Go.Proofs.YtnbkafnikpbmbaaDoor.K
open Go.ChangeShapes Go.WideShapes Go.ChangeAt Go.RowKit
set_option linter.unusedVariables false
set_option linter.unusedSimpArgs false
section
variable {H : Type} {enc : TypeId × Value → H} {w : World} {sp : Nat → Bool} {held : Bool}

end
end Go.Proofs.YtnbkafnikpbmbaaDoor.K
