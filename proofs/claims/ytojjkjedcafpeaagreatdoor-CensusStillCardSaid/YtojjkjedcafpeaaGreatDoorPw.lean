import Derived.Test.YtojjkjedcafpeaaGreatDoorPz
import Derived.Test.YtojjkjedcafpeaaGreatDoorVz
namespace Go.Proofs.YtojjkjedcafpeaaGreatDoor.K
set_option linter.unusedSimpArgs false
set_option linter.unusedVariables false
section
variable {c:Cx}{H:Heap}{A:List Res}{w:World}
end
section
variable {m:AM}{o z a n k v:Int}{s:ByteArray}{c:UInt8}
end
end Go.Proofs.YtojjkjedcafpeaaGreatDoor.K
