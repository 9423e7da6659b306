import Derived.Test.YtojjkjedcafpeaaGreatDoorYc
namespace Go.Proofs.YtojjkjedcafpeaaGreatDoor.K
set_option linter.unusedSimpArgs false
set_option linter.unusedVariables false
section
variable {m:AM}{o z a1 z1 a2 z2:Int}
end
end Go.Proofs.YtojjkjedcafpeaaGreatDoor.K
