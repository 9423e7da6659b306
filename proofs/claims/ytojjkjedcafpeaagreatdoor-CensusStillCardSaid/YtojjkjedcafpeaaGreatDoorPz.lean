import Derived.Test.YtojjkjedcafpeaaGreatDoorPx
import Derived.Test.YtojjkjedcafpeaaGreatDoorYe
import Derived.Test.YtojjkjedcafpeaaGreatDoorVx
import Derived.Test.YtojjkjedcafpeaaGreatDoorM5
namespace Go.Proofs.YtojjkjedcafpeaaGreatDoor.K
set_option linter.unusedSimpArgs false
set_option linter.unusedVariables false
section
variable {m:AM}{o z a n k v:Int}{s:ByteArray}{c:UInt8}
end
end Go.Proofs.YtojjkjedcafpeaaGreatDoor.K
