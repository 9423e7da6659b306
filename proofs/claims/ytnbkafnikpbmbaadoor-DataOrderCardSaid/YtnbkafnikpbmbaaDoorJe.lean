/-
  Entries that come, and go, and come out again: plainly.
-/
import Derived.Test.YtnbkafnikpbmbaaDoorJd
namespace Go.Proofs.YtnbkafnikpbmbaaDoor.K
set_option linter.unusedSimpArgs false
set_option linter.unusedVariables false

section
variable {q : Nat → Bool} {kf : Nat → UInt8} {k n : Nat}
end
section
variable {q : Nat → Bool} {kf : Nat → UInt8} {n : Nat} {m : AM} {x y : Int}
end
end Go.Proofs.YtnbkafnikpbmbaaDoor.K
