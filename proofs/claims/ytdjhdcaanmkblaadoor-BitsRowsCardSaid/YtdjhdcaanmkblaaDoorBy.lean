/-
  Walks, printed by w2.py.
-/
import Derived.Test.YtdjhdcaanmkblaaDoorM2
import Derived.Test.YtdjhdcaanmkblaaDoorRy
import Derived.Test.YtdjhdcaanmkblaaDoorProg
namespace Go.Proofs.YtdjhdcaanmkblaaDoor.K
set_option linter.unusedVariables false
set_option linter.unusedSimpArgs false

end Go.Proofs.YtdjhdcaanmkblaaDoor.K
