import Derived.Test.YtojjkjedcafpeaaGreatDoorTa
import Derived.Test.YtojjkjedcafpeaaGreatDoorJg
namespace Go.Proofs.YtojjkjedcafpeaaGreatDoor.K
set_option linter.unusedSimpArgs false
set_option linter.unusedVariables false
section
variable {c : Cx} {H : Heap} {A : List Res} {w : World}
end
abbrev Chk := Int × Int × Int × Int
section
variable {M : AM} {h : List Chk} {a ord own nx : Int}
end
section
variable {M m : AM} {h : List Chk}
end
end Go.Proofs.YtojjkjedcafpeaaGreatDoor.K
