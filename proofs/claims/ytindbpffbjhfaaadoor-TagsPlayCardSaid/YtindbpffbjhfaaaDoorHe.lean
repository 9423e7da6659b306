/-
  Walks, printed by w2.py.
-/
import Derived.Test.YtindbpffbjhfaaaDoorHd
import Derived.Test.YtindbpffbjhfaaaDoorProg
namespace Go.Proofs.YtindbpffbjhfaaaDoor.K
set_option linter.unusedVariables false
set_option linter.unusedSimpArgs false

end Go.Proofs.YtindbpffbjhfaaaDoor.K
