/-
  Walks, printed by w2.py.
-/
import Derived.Test.YtindbpffbjhfaaaDoorIb
import Derived.Test.YtindbpffbjhfaaaDoorJb
import Derived.Test.YtindbpffbjhfaaaDoorProg
namespace Go.Proofs.YtindbpffbjhfaaaDoor.K
set_option linter.unusedVariables false
set_option linter.unusedSimpArgs false

set_option maxRecDepth 100000 in
set_option maxHeartbeats 1000000 in
theorem chunk_Wipe (b : Nat) (F : Nat → Prop) (m : AM) (at_ : Int) (w : World) (hr : (arR b F m).R w) :
    Calls Tryd.prog 41 #[pt b 0, vi at_] w fun e w' => ∃ (F' : Nat → Prop), e = .returned (vi (chkE m at_ 32)) ∧ (arR b F' (filM m at_ 32 0)).R w' ∧ Fr w w' F F' := by
 refine enter (args := [pt b 0, vi at_]) (D := F) (A := [arR b F m]) Tryd.func41 rfl 8 rfl [] (WS.startA (r := arR b F m) hr trivial trivial) fun ac hS => ?_
 refine hS.regS [0] [0, 1] fun _ => seg [] [] [] trivial fun ac wd hS => ?_
 refine wp_region_seq ?_
 refine hS.opsC 2 [0, 0] [] fun _ => seg [(5, pt b 0), (6, vi at_)] [] [] trivial fun ac wd hS => ?_
 refine hS.callC 132 #[pt b 0, vi at_, vi 32, v8 0] (ar_Fill b F m at_ 32 (0 : UInt8) _ (hS.mem.res 0) ) ?_
 rintro _ wd ⟨F1, rfl, hA, hF⟩
 refine ⟨vi (chkE m at_ 32), rfl, ?_⟩
 replace hS := (hS.to (hS.mem.stepA 0 rfl hA hF)).put (d := 7) (v := vi (chkE m at_ 32)) (by decide)
 clear hF
 refine hS.opsC 1 [0] [] fun _ => seg [(4, vi (chkE m at_ 32))] [] [] trivial fun ac wd hS => ?_
 refine list_nil_seq ?_
 refine wp_ret ?_
 refine St.retC 0 hS (vi (chkE m at_ 32)) [] trivial fun hw => ?_
 refine ⟨F1, retd rfl, (res_eq (r := arR b F1 (filM m at_ 32 (0 : UInt8))) (by rfl) (hw.res 0)), hw.frA⟩

end Go.Proofs.YtindbpffbjhfaaaDoor.K
