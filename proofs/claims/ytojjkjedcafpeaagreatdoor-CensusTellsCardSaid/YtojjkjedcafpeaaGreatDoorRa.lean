import Derived.Test.YtojjkjedcafpeaaGreatDoorM5
import Derived.Test.YtojjkjedcafpeaaGreatDoorQz
namespace Go.Proofs.YtojjkjedcafpeaaGreatDoor.K
set_option linter.unusedSimpArgs false
set_option linter.unusedVariables false
section
variable {m:AM}{o z:Int}{L:List Ent}
end
end Go.Proofs.YtojjkjedcafpeaaGreatDoor.K
