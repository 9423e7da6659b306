/-
  Texts in a view.
-/
import Derived.Test.YthgkiieenojcpaaDoorVa
import Derived.Test.YthgkiieenojcpaaDoorM4
import Derived.Test.YthgkiieenojcpaaDoorM3
namespace Go.Proofs.YthgkiieenojcpaaDoor.K
set_option linter.unusedSimpArgs false
set_option linter.unusedVariables false

section
variable {m : AM} {o z a k : Int} {s : ByteArray}
end
end Go.Proofs.YthgkiieenojcpaaDoor.K
