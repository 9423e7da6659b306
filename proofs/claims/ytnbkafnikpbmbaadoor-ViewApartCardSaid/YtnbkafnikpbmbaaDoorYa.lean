/-
  Texts in a view.
-/
import Derived.Test.YtnbkafnikpbmbaaDoorVa
import Derived.Test.YtnbkafnikpbmbaaDoorM4
import Derived.Test.YtnbkafnikpbmbaaDoorM3
namespace Go.Proofs.YtnbkafnikpbmbaaDoor.K
set_option linter.unusedSimpArgs false
set_option linter.unusedVariables false

section
variable {m : AM} {o z a k : Int} {s : ByteArray}
end
end Go.Proofs.YtnbkafnikpbmbaaDoor.K
