import Derived.Test.YtojjkjedcafpeaaGreatDoorM5
import Derived.Test.YtojjkjedcafpeaaGreatDoorNa
namespace Go.Proofs.YtojjkjedcafpeaaGreatDoor.K
set_option linter.unusedSimpArgs false
set_option linter.unusedVariables false
abbrev Sl:=Int×Int
section
variable {m:AM}{o z:Int}{t:List Sl}
end
end Go.Proofs.YtojjkjedcafpeaaGreatDoor.K
