/-
  Rows of structs, told by functions of the place.
-/
import Derived.Test.YthgkiieenojcpaaDoorSv
import Derived.Test.YthgkiieenojcpaaDoorHf
namespace Go.Proofs.YthgkiieenojcpaaDoor.K
set_option linter.unusedSimpArgs false
set_option linter.unusedVariables false
section
end

section
end

section
end

section
end

section
end

section
end

section
end

section
end

section
end

section
end

section
end

section
end

section
end

section
end

section
end

section
end

end Go.Proofs.YthgkiieenojcpaaDoor.K
