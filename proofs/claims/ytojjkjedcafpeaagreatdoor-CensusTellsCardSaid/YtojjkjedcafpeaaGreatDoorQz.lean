import Derived.Test.YtojjkjedcafpeaaGreatDoorQa
namespace Go.Proofs.YtojjkjedcafpeaaGreatDoor.K
set_option linter.unusedSimpArgs false
set_option linter.unusedVariables false
section
variable {t:List Sl}{h a:Int}
end
end Go.Proofs.YtojjkjedcafpeaaGreatDoor.K
