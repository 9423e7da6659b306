/-
  Walks, printed by w2.py.
-/
import Derived.Test.YthgkiieenojcpaaDoorYd
import Derived.Test.YthgkiieenojcpaaDoorYe
import Derived.Test.YthgkiieenojcpaaDoorProg
namespace Go.Proofs.YthgkiieenojcpaaDoor.K
set_option linter.unusedVariables false
set_option linter.unusedSimpArgs false

set_option maxRecDepth 100000 in
set_option maxHeartbeats 1000000 in
theorem vw_Of_x (b : Nat) (F : Nat → Prop) (m : AM) (a : Int) (n : Int) (w : World) (hr : (arR b F m).R w) (ht : thr m a n = false) :
    Calls Tryd.prog 39 #[pt b 0, vi a, vi n] w fun e w' => e = .returned (.tuple #[.agg #[pnil, vi 0, vi 0], vi 3]) ∧ Fr w w' no no := by
 refine enter (args := [pt b 0, vi a, vi n]) (D := no) (A := []) Tryd.func39 rfl 25 rfl [] (WS.startL trivial) fun ac hS => ?_
 refine hS.regS [0, 0] [0, 1, 2] fun ν1 => seg [(6, pt (ν1 0) 0)] [(0, some ((ν1 0), .cells [pnil, vi 0, vi 0] 72))] [] trivial fun ac wd hS => ?_
 refine wp_seq ?_
 refine wp_region_seq ?_
 refine hS.opsC 3 [0, 0, 0] [0, 1, 2, 6] fun _ => seg [(11, pt b 0), (12, vi a), (13, vi n)] [(0, none)] [] trivial fun ac wd hS => ?_
 refine hS.call0 42 #[pt b 0, vi a, vi n] 14 (ar_Bytes b F m a n _ (Res.keep hr hS.mem.fr) ) fun ac wd hS => ?_
 refine hS.opsC 5 [0, 0, 0, 0, 0] [0, 1, 2, 6] fun _ => seg [(9, vi (chkE m a n))] [(0, none)] [] trivial fun ac wd hS => ?_
 refine list_nil_seq ?_
 refine hS.regS [0, 0] [0, 1, 2, 6, 9] fun _ => seg [(18, vb (((chkE m a n) : Int) != 0))] [(0, none)] [] trivial fun ac wd hS => ?_
 refine hS.condK (((chkE m a n) : Int) != 0) true (by rw [chk_three ht]; rfl) ?_
 show Code.wp _ _ _ _ _
 refine hS.regS [0, 0, 0, 0] [6] fun _ => seg [(7, vi (chkE m a n))] [(0, none)] [.e (ν1 0), .e (ν1 0), .e (ν1 0)] trivial fun ac wd hS => ?_
 refine wp_ret ?_
 refine pop_then_ret ?_
 refine St.retC 0 hS (.tuple #[.agg #[pnil, vi 0, vi 0], vi (chkE m a n)]) [.e (ν1 0), .e (ν1 0), .e (ν1 0)] trivial fun hw => ?_
 refine ⟨retd (tuple2 rfl (vint ?_)), hw.fr0⟩
 all_goals (exact chk_three ht)

end Go.Proofs.YthgkiieenojcpaaDoor.K
