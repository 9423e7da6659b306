import Derived.Test.YtojjkjedcafpeaaGreatDoorVa
import Derived.Test.YtojjkjedcafpeaaGreatDoorM4
import Derived.Test.YtojjkjedcafpeaaGreatDoorM3
namespace Go.Proofs.YtojjkjedcafpeaaGreatDoor.K
set_option linter.unusedSimpArgs false
set_option linter.unusedVariables false
section
variable {m:AM}{o z a k:Int}{s:ByteArray}
end
end Go.Proofs.YtojjkjedcafpeaaGreatDoor.K
