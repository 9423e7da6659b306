/-
  Rows of structs, told by functions of the place.
-/
import Derived.Test.YtnbkafnikpbmbaaDoorSv
import Derived.Test.YtnbkafnikpbmbaaDoorHf
namespace Go.Proofs.YtnbkafnikpbmbaaDoor.K
set_option linter.unusedSimpArgs false
set_option linter.unusedVariables false
section
end

section
end

section
end

section
end

section
end

section
end

section
end

section
def s1V (E : Nat → ByteArray) (o x : Nat) : Value := .string (E (x - o))
end

section
end

section
end

section
end

section
end

section
end

section
end

section
end

section
end

end Go.Proofs.YtnbkafnikpbmbaaDoor.K
