/-
  Walks, printed by w2.py.
-/
import Derived.Test.YtnbkafnikpbmbaaGreatDoorM4
import Derived.Test.YtnbkafnikpbmbaaGreatDoorProg
namespace Go.Proofs.YtnbkafnikpbmbaaGreatDoor.K
set_option linter.unusedVariables false
set_option linter.unusedSimpArgs false



end Go.Proofs.YtnbkafnikpbmbaaGreatDoor.K
