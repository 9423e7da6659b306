/-
  What the shelf's contracts leave of a world.
-/
import Derived.Test.YtnbkafnikpbmbaaDoorVa
import Derived.Below
namespace Go.Proofs.YtnbkafnikpbmbaaDoor.K
open Go.RowKit
end Go.Proofs.YtnbkafnikpbmbaaDoor.K
