/-
  What the reference's rows and the set's rows have in common.
-/
import Derived.Test.YtdjhdcaanmkblaaDoorM2
namespace Go.Proofs.YtdjhdcaanmkblaaDoor.K
set_option linter.unusedSimpArgs false
set_option linter.unusedVariables false

end Go.Proofs.YtdjhdcaanmkblaaDoor.K
