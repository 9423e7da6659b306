import Derived.Test.YtojjkjedcafpeaaGreatDoorYe
namespace Go.Proofs.YtojjkjedcafpeaaGreatDoor.K
set_option linter.unusedSimpArgs false
set_option linter.unusedVariables false
section
variable {m0 m:AM}{o z:Int}
end
end Go.Proofs.YtojjkjedcafpeaaGreatDoor.K
