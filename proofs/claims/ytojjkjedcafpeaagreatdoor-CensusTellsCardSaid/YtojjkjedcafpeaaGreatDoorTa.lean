import Derived.Test.YtojjkjedcafpeaaGreatDoorRa
import Derived.Test.YtojjkjedcafpeaaGreatDoorM3
namespace Go.Proofs.YtojjkjedcafpeaaGreatDoor.K
set_option linter.unusedSimpArgs false
set_option linter.unusedVariables false
theorem thr_mk {m:AM}{a k:Int}(hi:inB m a k=true)(hu:∀i:Nat,a/4096≤(i:Int)→(i:Int)≤(a+k-1)/4096→m.com i=true):thr m a k=true:=by
  unfold thr
  rw [hi];obtain⟨h1,h2,h3,h4⟩:=inB_facts hi
  by_cases hk:k=0
  · simp [hk]
  · have hc:=cntR_all (b:=true) (p:=m.com) (pgN a k) (pg0 a) (fun i q1 q2=>hu i (by unfold pg0 at q1;omega) (by unfold pg0 at q2;unfold pgN at q2;omega))
    simp only [if_true]at hc
    simp [hc]
section
variable {c:Cx}{H:Heap}{A:List Res}{w:World}
end
section
variable {m:AM}{a s p:Int}
end
end Go.Proofs.YtojjkjedcafpeaaGreatDoor.K
