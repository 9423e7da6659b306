/-
  Rows of structs, told by functions of the place.
-/
import Derived.Test.YthgkiieenojcpaaDoorSv
import Derived.Test.YthgkiieenojcpaaDoorHf
namespace Go.Proofs.YthgkiieenojcpaaDoor.K
set_option linter.unusedSimpArgs false
set_option linter.unusedVariables false
section
end

section
end

section
end

section
end

section
end

section
end

section
end

section
def s1V (E : Nat → ByteArray) (o x : Nat) : Value := .string (E (x - o))
theorem s1V_0 (E : Nat → ByteArray) (o i : Nat) : s1V E o (o + i * 1) = .string (E i) := by unfold s1V; rw [show o + i * 1 - o = i by omega]
end

section
end

section
end

section
end

section
end

section
end

section
end

section
end

section
end

end Go.Proofs.YthgkiieenojcpaaDoor.K
