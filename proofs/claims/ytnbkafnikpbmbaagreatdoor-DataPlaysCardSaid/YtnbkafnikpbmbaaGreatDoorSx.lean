/-
  More rows of structs, told by functions of the place.
-/
import Derived.Test.YtnbkafnikpbmbaaGreatDoorM5
namespace Go.Proofs.YtnbkafnikpbmbaaGreatDoor.K
set_option linter.unusedSimpArgs false
set_option linter.unusedVariables false
section
end

end Go.Proofs.YtnbkafnikpbmbaaGreatDoor.K
