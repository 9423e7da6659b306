/-
  Walks, printed by w2.py.
-/
import Derived.Test.YtnbkafnikpbmbaaDoorM4
import Derived.Test.YtnbkafnikpbmbaaDoorProg
namespace Go.Proofs.YtnbkafnikpbmbaaDoor.K
set_option linter.unusedVariables false
set_option linter.unusedSimpArgs false



end Go.Proofs.YtnbkafnikpbmbaaDoor.K
