/-
  A page of the same bytes, and a text in it.
-/
import Derived.Test.YtnbkafnikpbmbaaGreatDoorYa
import Derived.Test.YtnbkafnikpbmbaaGreatDoorUa
namespace Go.Proofs.YtnbkafnikpbmbaaGreatDoor.K
set_option linter.unusedSimpArgs false
set_option linter.unusedVariables false

section
variable {m : AM} {z a k : Int} {s : ByteArray}
end
end Go.Proofs.YtnbkafnikpbmbaaGreatDoor.K
