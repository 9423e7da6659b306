import Derived.Test.YtojjkjedcafpeaaGreatDoorUa
namespace Go.Proofs.YtojjkjedcafpeaaGreatDoor.K
set_option linter.unusedSimpArgs false
set_option linter.unusedVariables false
section
variable {P:Program}{c:Cx}{n:Nat}{E:Env}{H:Heap}{A:List Res}{a:Act}{w:World}{o:Oper}
end
end Go.Proofs.YtojjkjedcafpeaaGreatDoor.K
