import Derived.Test.YtojjkjedcafpeaaGreatDoorM5
namespace Go.Proofs.YtojjkjedcafpeaaGreatDoor.K
set_option linter.unusedSimpArgs false
set_option linter.unusedVariables false
abbrev HdI:=Option Addr×Nat×List Int
abbrev slH (h:HdI):Value:=.slice h.1 h.2.2.length h.2.1
section
end
end Go.Proofs.YtojjkjedcafpeaaGreatDoor.K
