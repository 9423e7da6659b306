import Derived.Test.YtojjkjedcafpeaaGreatDoorM2
import Derived.Test.YtojjkjedcafpeaaGreatDoorM3
import Derived.Laws.Rows
import Derived.Laws.Tables
namespace Go.Proofs.YtojjkjedcafpeaaGreatDoor.K
set_option linter.unusedSimpArgs false
set_option linter.unusedVariables false
section
variable {P:Program}{c:Cx}{n:Nat}{E:Env}{H:Heap}{A:List Res}{a:Act}{w:World}{o:Oper}
end
section
variable {c:Cx}{H:Heap}{w:World}
end
end Go.Proofs.YtojjkjedcafpeaaGreatDoor.K
