/-
  Joins two roads of texts.
-/
import Derived.Test.YtnbkafnikpbmbaaDoorOb
import Derived.Test.YtnbkafnikpbmbaaDoorLh
namespace Go.Proofs.YtnbkafnikpbmbaaDoor.K
end Go.Proofs.YtnbkafnikpbmbaaDoor.K
