import Derived.Test.YtojjkjedcafpeaaGreatDoorLd
import Derived.Test.YtojjkjedcafpeaaGreatDoorM4
namespace Go.Proofs.YtojjkjedcafpeaaGreatDoor.K
open Go.ChangeShapes Go.WideShapes Go.ChangeAt Go.RowKit
set_option linter.unusedVariables false
set_option linter.unusedSimpArgs false
section
variable {H:Type}{enc:TypeId×Value→H}{w:World}{sp:Nat→Bool}{held:Bool}
end
theorem rng_i64 {n:Int}(h:(Lit.int .i64 n).wf=true): -9223372036854775808≤n∧n≤9223372036854775807:=by
  have h1:IntKind.i64.min= -9223372036854775808:=rfl;have h2:IntKind.i64.max=9223372036854775807:=rfl
  simp [Lit.wf,h1,h2]at h
  omega
end Go.Proofs.YtojjkjedcafpeaaGreatDoor.K
