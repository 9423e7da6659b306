/-
  What the shelf's contracts leave of a world.
-/
import Derived.Test.YtojjkjedcafpeaaGreatDoorVa
import Derived.Below
namespace Go.Proofs.YtojjkjedcafpeaaGreatDoor.K
open Go.RowKit
theorem Below_Fr {w w' : World} (h : Below w.heap.size w w') : Fr w w' no no := ⟨h.os, h.tape, h.output, h.size, fun k hk _ => h.block k hk, fun _ hk => hk.elim⟩
end Go.Proofs.YtojjkjedcafpeaaGreatDoor.K
