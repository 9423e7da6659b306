/-
  Walks, printed by w2.py.
-/
import Derived.Test.YthgkiieenojcpaaDoorHb
import Derived.Test.YthgkiieenojcpaaDoorVa
import Derived.Test.YthgkiieenojcpaaDoorQz
import Derived.Test.YthgkiieenojcpaaDoorSh
import Derived.Test.YthgkiieenojcpaaDoorSf
import Derived.Test.YthgkiieenojcpaaDoorProg
namespace Go.Proofs.YthgkiieenojcpaaDoor.K
set_option linter.unusedVariables false
set_option linter.unusedSimpArgs false

end Go.Proofs.YthgkiieenojcpaaDoor.K
