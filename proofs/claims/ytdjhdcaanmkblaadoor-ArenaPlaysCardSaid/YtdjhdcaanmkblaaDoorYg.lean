/-
  Parts that are laid one behind the other.
-/
import Derived.Test.YtdjhdcaanmkblaaDoorYe
import Derived.Test.YtdjhdcaanmkblaaDoorQz
import Derived.Lib.Join
namespace Go.Proofs.YtdjhdcaanmkblaaDoor.K
set_option linter.unusedSimpArgs false
set_option linter.unusedVariables false

section
variable {z : Int} {J : ByteArray}
end
end Go.Proofs.YtdjhdcaanmkblaaDoor.K
