/-
  What the shelf's contracts leave of a world.
-/
import Derived.Test.YtdjhdcaanmkblaaDoorVa
import Derived.Below
namespace Go.Proofs.YtdjhdcaanmkblaaDoor.K
open Go.RowKit
end Go.Proofs.YtdjhdcaanmkblaaDoor.K
