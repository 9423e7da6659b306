import Derived.Test.YtojjkjedcafpeaaGreatDoorYa
import Derived.Test.YtojjkjedcafpeaaGreatDoorUa
namespace Go.Proofs.YtojjkjedcafpeaaGreatDoor.K
set_option linter.unusedSimpArgs false
set_option linter.unusedVariables false
section
variable {m:AM}{z a k:Int}{s:ByteArray}
end
end Go.Proofs.YtojjkjedcafpeaaGreatDoor.K
