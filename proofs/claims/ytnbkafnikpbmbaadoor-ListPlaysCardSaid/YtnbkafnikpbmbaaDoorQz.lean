/-
  Handles: the document's table, case by case.
-/
import Derived.Test.YtnbkafnikpbmbaaDoorQa
namespace Go.Proofs.YtnbkafnikpbmbaaDoor.K
set_option linter.unusedSimpArgs false
set_option linter.unusedVariables false
theorem gtD_rep {α : Type} [Inhabited α] {n i : Nat} {x : α} (h : i < n) : gtD (List.replicate n x) i = x := by
  rw [gtD_lt (by simpa using h)]; simp
section
variable {t : List Sl} {h a : Int}
end
end Go.Proofs.YtnbkafnikpbmbaaDoor.K
