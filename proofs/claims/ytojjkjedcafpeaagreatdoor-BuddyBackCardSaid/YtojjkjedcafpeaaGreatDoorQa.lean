/-
  Handles, as a list of slots; what the document answers.
-/
import Derived.Test.YtojjkjedcafpeaaGreatDoorM5
import Derived.Test.YtojjkjedcafpeaaGreatDoorNa
namespace Go.Proofs.YtojjkjedcafpeaaGreatDoor.K
set_option linter.unusedSimpArgs false
set_option linter.unusedVariables false

/-! ## First places, lists of what is so -/
/-! ## The document's table -/
abbrev Sl := Int × Int
/-! ## The table in memory -/
section
variable {m : AM} {o z : Int} {t : List Sl}
end
end Go.Proofs.YtojjkjedcafpeaaGreatDoor.K
