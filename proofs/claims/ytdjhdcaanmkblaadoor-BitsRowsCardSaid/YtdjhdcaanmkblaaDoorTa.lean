/-
  An arena as the document's; objects' headers, plainly.
-/
import Derived.Test.YtdjhdcaanmkblaaDoorRa
import Derived.Test.YtdjhdcaanmkblaaDoorM3
namespace Go.Proofs.YtdjhdcaanmkblaaDoor.K
set_option linter.unusedSimpArgs false
set_option linter.unusedVariables false

section
variable {c : Cx} {H : Heap} {A : List Res} {w : World}
end
/-! ## Objects' headers -/
section
variable {m : AM} {a s p : Int}
end
end Go.Proofs.YtdjhdcaanmkblaaDoor.K
