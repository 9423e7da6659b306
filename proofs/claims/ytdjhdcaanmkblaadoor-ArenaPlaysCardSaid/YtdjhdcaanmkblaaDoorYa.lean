/-
  Texts in a view.
-/
import Derived.Test.YtdjhdcaanmkblaaDoorVa
import Derived.Test.YtdjhdcaanmkblaaDoorM4
import Derived.Test.YtdjhdcaanmkblaaDoorM3
namespace Go.Proofs.YtdjhdcaanmkblaaDoor.K
set_option linter.unusedSimpArgs false
set_option linter.unusedVariables false

section
variable {m : AM} {o z a k : Int} {s : ByteArray}
end
end Go.Proofs.YtdjhdcaanmkblaaDoor.K
