/-
  Objects in chunks, plainly.
-/
import Derived.Test.YtindbpffbjhfaaaDoorGc
namespace Go.Proofs.YtindbpffbjhfaaaDoor.K
set_option linter.unusedSimpArgs false
set_option linter.unusedVariables false

end Go.Proofs.YtindbpffbjhfaaaDoor.K
