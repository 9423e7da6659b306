/-
  A document's arena of no pages.
-/
import Derived.Test.YtdjhdcaanmkblaaDoorVx
import Derived.Test.YtdjhdcaanmkblaaDoorM3
import Derived.Test.YtdjhdcaanmkblaaDoorYg
import Derived.Test.YtdjhdcaanmkblaaDoorSx
namespace Go.Proofs.YtdjhdcaanmkblaaDoor.K
set_option linter.unusedSimpArgs false
set_option linter.unusedVariables false

end Go.Proofs.YtdjhdcaanmkblaaDoor.K
