/-
  Rows of structs, told by functions of the place.
-/
import Derived.Test.YtindbpffbjhfaaaDoorSv
import Derived.Test.YtindbpffbjhfaaaDoorHf
namespace Go.Proofs.YtindbpffbjhfaaaDoor.K
set_option linter.unusedSimpArgs false
set_option linter.unusedVariables false
section
end

section
end

section
end

section
end

section
end

section
end

section
end

section
end

section
end

section
end

section
end

section
end

section
end

section
end

section
end

section
def obV (E : Nat → Int × Int × Int) (o x : Nat) : Value := if (x - o) % 3 = 0 then vi (E ((x - o) / 3)).1 else if (x - o) % 3 = 1 then vi (E ((x - o) / 3)).2.1 else vi (E ((x - o) / 3)).2.2
end

end Go.Proofs.YtindbpffbjhfaaaDoor.K
