/-
  Walks, printed by w2.py.
-/
import Derived.Test.YtojjkjedcafpeaaGreatDoorVb
import Derived.Test.YtojjkjedcafpeaaGreatDoorYa
import Derived.Test.YtojjkjedcafpeaaGreatDoorProg
namespace Go.Proofs.YtojjkjedcafpeaaGreatDoor.K
set_option linter.unusedVariables false
set_option linter.unusedSimpArgs false



end Go.Proofs.YtojjkjedcafpeaaGreatDoor.K
