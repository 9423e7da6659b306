/-
  What the shelf's contracts leave of a world.
-/
import Derived.Test.YtnbkafnikpbmbaaGreatDoorVa
import Derived.Below
namespace Go.Proofs.YtnbkafnikpbmbaaGreatDoor.K
open Go.RowKit
end Go.Proofs.YtnbkafnikpbmbaaGreatDoor.K
