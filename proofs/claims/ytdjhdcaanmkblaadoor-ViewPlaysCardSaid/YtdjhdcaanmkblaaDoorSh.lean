/-
  What the shelf's contracts leave of a world.
-/
import Derived.Test.YtdjhdcaanmkblaaDoorVa
import Derived.Below
namespace Go.Proofs.YtdjhdcaanmkblaaDoor.K
open Go.RowKit
theorem Below_Fr {w w' : World} (h : Below w.heap.size w w') : Fr w w' no no := ⟨h.os, h.tape, h.output, h.size, fun k hk _ => h.block k hk, fun k hk => hk.elim⟩
end Go.Proofs.YtdjhdcaanmkblaaDoor.K
