/-
  More rows of structs, told by functions of the place.
-/
import Derived.Test.YtnbkafnikpbmbaaDoorM5
namespace Go.Proofs.YtnbkafnikpbmbaaDoor.K
set_option linter.unusedSimpArgs false
set_option linter.unusedVariables false
section
end

end Go.Proofs.YtnbkafnikpbmbaaDoor.K
