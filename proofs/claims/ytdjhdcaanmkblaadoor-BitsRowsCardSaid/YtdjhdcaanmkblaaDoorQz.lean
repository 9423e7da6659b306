/-
  Handles: the document's table, case by case.
-/
import Derived.Test.YtdjhdcaanmkblaaDoorQa
namespace Go.Proofs.YtdjhdcaanmkblaaDoor.K
set_option linter.unusedSimpArgs false
set_option linter.unusedVariables false
section
variable {t : List Sl} {h a : Int}
end
end Go.Proofs.YtdjhdcaanmkblaaDoor.K
