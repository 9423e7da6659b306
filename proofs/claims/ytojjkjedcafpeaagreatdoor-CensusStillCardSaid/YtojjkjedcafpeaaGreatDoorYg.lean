import Derived.Test.YtojjkjedcafpeaaGreatDoorYe
import Derived.Test.YtojjkjedcafpeaaGreatDoorQz
import Derived.Lib.Join
namespace Go.Proofs.YtojjkjedcafpeaaGreatDoor.K
set_option linter.unusedSimpArgs false
set_option linter.unusedVariables false
section
variable {z:Int}{J:ByteArray}
end
end Go.Proofs.YtojjkjedcafpeaaGreatDoor.K
