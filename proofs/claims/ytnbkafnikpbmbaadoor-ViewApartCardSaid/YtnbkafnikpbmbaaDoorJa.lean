/-
  A walk by computing: records of numbers that are compared.
-/
import Derived.Test.YtnbkafnikpbmbaaDoorIa
import Derived.Laws.StructEq
namespace Go.Proofs.YtnbkafnikpbmbaaDoor.K
set_option linter.unusedSimpArgs false
set_option linter.unusedVariables false

section
variable {P : Program} {c : Cx} {n : Nat} {E : Env} {H : Heap} {A : List Res} {a : Act} {w : World} {o : Oper}
end
section
variable {P : Program} {c : Cx} {n : Nat} {E : Env} {H Hf : Heap} {A : List Res} {a : Act} {w : World} {ops : Array Oper} {R : Act → World → Prop} {Q : Exit → Act → World → Prop}
end
end Go.Proofs.YtnbkafnikpbmbaaDoor.K
