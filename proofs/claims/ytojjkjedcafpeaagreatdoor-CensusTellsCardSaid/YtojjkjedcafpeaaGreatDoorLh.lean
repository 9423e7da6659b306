import Derived.Test.YtojjkjedcafpeaaGreatDoorM5
import Derived.Test.YtojjkjedcafpeaaGreatDoorLg
namespace Go.Proofs.YtojjkjedcafpeaaGreatDoor.K
open Go.ChangeShapes Go.WideShapes Go.ChangeAt Go.RowKit
set_option linter.unusedVariables false
set_option linter.unusedSimpArgs false
section
variable {H:Type}{enc:TypeId×Value→H}{w:World}{sp:Nat→Bool}{held:Bool}
end
end Go.Proofs.YtojjkjedcafpeaaGreatDoor.K
