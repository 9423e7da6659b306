import Derived.Test.YtojjkjedcafpeaaGreatDoorSy
import Derived.Test.YtojjkjedcafpeaaGreatDoorGf
import Derived.Test.YtojjkjedcafpeaaGreatDoorNd
namespace Go.Proofs.YtojjkjedcafpeaaGreatDoor.K
set_option linter.unusedSimpArgs false
set_option linter.unusedVariables false
section
variable {P:Program}{c:Cx}{n:Nat}{E:Env}{H:Heap}{A:List Res}{a:Act}{w:World}
end
theorem ints_app1 (L:List Int)(a:Int):∀x,x<(L.length+1)*1→appF (ints L 0) (L.length*1) [vi a] x=ints (L++[a]) 0 x:=by
  intro x hx
  unfold appF ints
  simp only [Nat.mul_one,Nat.sub_zero]
  by_cases h:x<L.length
  · rw [if_pos h,List.getD_eq_getElem?_getD,List.getD_eq_getElem?_getD,List.getElem?_append_left h]
  · rw [if_neg h]
    rw [List.getD_eq_getElem?_getD,List.getD_eq_getElem?_getD,List.getElem?_append_right (by omega)];obtain q:x-L.length=0:=by omega
    rw [q];rfl
section
variable {m:AM}{z:Int}{l:List HdI}{b:Nat}
end
section
variable {m:AM}{z:Int}{l:List HdI}{b:Nat}
end
end Go.Proofs.YtojjkjedcafpeaaGreatDoor.K
