/-
  Rows of bits told: numbers that are put behind a list two by two, and the last of them that grows; sets of bools.
-/
import Derived.Test.YtdjhdcaanmkblaaDoorRz
import Derived.Test.YtdjhdcaanmkblaaDoorGf
import Derived.Test.YtdjhdcaanmkblaaDoorM2
namespace Go.Proofs.YtdjhdcaanmkblaaDoor.K
set_option linter.unusedSimpArgs false
set_option linter.unusedVariables false

section
variable {P : Program} {c : Cx} {n : Nat} {E : Env} {H : Heap} {A : List Res} {a : Act} {w : World} {o : Oper}
end

section
variable {p : Nat → Bool} {x : Int}
end
end Go.Proofs.YtdjhdcaanmkblaaDoor.K
