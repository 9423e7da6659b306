/-
  Walks, printed by w2.py.
-/
import Derived.Test.YtefffenljiaioaaDoorIa
import Derived.Test.YtefffenljiaioaaDoorProg
namespace Go.Proofs.YtefffenljiaioaaDoor.K
set_option linter.unusedVariables false
set_option linter.unusedSimpArgs false



end Go.Proofs.YtefffenljiaioaaDoor.K
