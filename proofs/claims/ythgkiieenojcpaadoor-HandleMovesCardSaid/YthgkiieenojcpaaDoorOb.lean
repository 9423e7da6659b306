/-
  Walks, printed by w2.py.
-/
import Derived.Test.YthgkiieenojcpaaDoorM3
import Derived.Test.YthgkiieenojcpaaDoorOa
import Derived.Test.YthgkiieenojcpaaDoorProg
namespace Go.Proofs.YthgkiieenojcpaaDoor.K
set_option linter.unusedVariables false
set_option linter.unusedSimpArgs false

end Go.Proofs.YthgkiieenojcpaaDoor.K
