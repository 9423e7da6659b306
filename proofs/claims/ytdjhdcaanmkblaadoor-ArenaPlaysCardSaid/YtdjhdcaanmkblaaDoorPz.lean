/-
  Views of the document's arena.
-/
import Derived.Test.YtdjhdcaanmkblaaDoorPx
import Derived.Test.YtdjhdcaanmkblaaDoorYe
import Derived.Test.YtdjhdcaanmkblaaDoorVx
import Derived.Test.YtdjhdcaanmkblaaDoorM5
namespace Go.Proofs.YtdjhdcaanmkblaaDoor.K
set_option linter.unusedSimpArgs false
set_option linter.unusedVariables false

section
variable {m : AM} {o z a n k v : Int} {s : ByteArray} {c : UInt8}
end
end Go.Proofs.YtdjhdcaanmkblaaDoor.K
