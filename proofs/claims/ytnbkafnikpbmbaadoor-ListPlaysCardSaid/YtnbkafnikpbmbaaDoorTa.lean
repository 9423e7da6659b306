/-
  An arena as the document's; objects' headers, plainly.
-/
import Derived.Test.YtnbkafnikpbmbaaDoorRa
import Derived.Test.YtnbkafnikpbmbaaDoorM3
namespace Go.Proofs.YtnbkafnikpbmbaaDoor.K
set_option linter.unusedSimpArgs false
set_option linter.unusedVariables false

section
variable {c : Cx} {H : Heap} {A : List Res} {w : World}
end
/-! ## Objects' headers -/
section
variable {m : AM} {a s p : Int}
end
end Go.Proofs.YtnbkafnikpbmbaaDoor.K
