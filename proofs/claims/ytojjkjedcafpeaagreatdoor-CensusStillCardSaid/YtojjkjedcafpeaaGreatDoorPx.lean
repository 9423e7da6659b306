import Derived.Test.YtojjkjedcafpeaaGreatDoorTa
import Derived.Test.YtojjkjedcafpeaaGreatDoorM3
namespace Go.Proofs.YtojjkjedcafpeaaGreatDoor.K
set_option linter.unusedSimpArgs false
set_option linter.unusedVariables false
section
variable {m:AM}{f k:Int}
end
end Go.Proofs.YtojjkjedcafpeaaGreatDoor.K
