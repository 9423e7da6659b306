import Derived.Test.YtojjkjedcafpeaaGreatDoorTa
import Derived.Test.YtojjkjedcafpeaaGreatDoorJg
namespace Go.Proofs.YtojjkjedcafpeaaGreatDoor.K
set_option linter.unusedSimpArgs false
set_option linter.unusedVariables false
theorem pairwise_getR {α:Type}{R:α→α→Prop}{l:List α}(h:l.Pairwise R){i j:Nat}{x y:α}(hij:i<j)(hx:l[i]? =some x)(hy:l[j]? =some y):R x y:=by
  obtain⟨hi,rfl⟩:=List.getElem?_eq_some_iff.1 hx;obtain⟨hj,rfl⟩:=List.getElem?_eq_some_iff.1 hy;exact List.pairwise_iff_getElem.1 h i j hi hj hij
section
variable {c:Cx}{H:Heap}{A:List Res}{w:World}
end
abbrev Chk:=Int×Int×Int×Int
section
variable {M:AM}{h:List Chk}{a ord own nx:Int}
end
section
variable {M m:AM}{h:List Chk}
end
end Go.Proofs.YtojjkjedcafpeaaGreatDoor.K
