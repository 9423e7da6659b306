/-
  Walks, printed by w2.py.
-/
import Derived.Test.YtnbkafnikpbmbaaDoorHa
import Derived.Test.YtnbkafnikpbmbaaDoorProg
namespace Go.Proofs.YtnbkafnikpbmbaaDoor.K
set_option linter.unusedVariables false
set_option linter.unusedSimpArgs false

set_option maxRecDepth 100000 in
set_option maxHeartbeats 1000000 in
theorem vw_Size (b : Nat) (o_ : Int) (z : Int) (w : World) :
    Calls Tryd.prog 62 #[.agg #[pt b 0, vi o_, vi z]] w fun e w' => e = .returned (vi z) ∧ Fr w w' no no := by
 refine enter (args := [.agg #[pt b 0, vi o_, vi z]]) (D := no) (A := []) Tryd.func62 rfl 5 rfl [] (WS.startL trivial) fun ac hS => ?_
 refine hS.regS [0, 0] [] fun ν1 => seg [(1, pt (ν1 0) 0)] [(0, some ((ν1 0), .cells [pt b 0, vi o_, vi z] 72))] [] trivial fun ac wd hS => ?_
 refine hS.regS [0, 0, 0] [] fun _ => seg [(2, vi z)] [] [.e (ν1 0)] trivial fun ac wd hS => ?_
 refine wp_ret ?_
 refine St.retC 0 hS (vi z) [] trivial fun hw => ?_
 refine ⟨retd rfl, hw.fr0⟩

end Go.Proofs.YtnbkafnikpbmbaaDoor.K
