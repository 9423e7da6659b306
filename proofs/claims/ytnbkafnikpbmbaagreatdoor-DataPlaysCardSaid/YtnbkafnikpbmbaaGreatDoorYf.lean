/-
  Walks, printed by w2.py.
-/
import Derived.Test.YtnbkafnikpbmbaaGreatDoorYd
import Derived.Test.YtnbkafnikpbmbaaGreatDoorYe
import Derived.Test.YtnbkafnikpbmbaaGreatDoorProg
namespace Go.Proofs.YtnbkafnikpbmbaaGreatDoor.K
set_option linter.unusedVariables false
set_option linter.unusedSimpArgs false

set_option maxRecDepth 100000 in
set_option maxHeartbeats 1000000 in
theorem vw_Fill (b : Nat) (F : Nat → Prop) (m : AM) (o_ : Int) (z : Int) (a : Int) (n : Int) (c : Int) (w : World) (hr : (arR b F m).R w) (ho : 0 ≤ o_ ∧ 0 ≤ z ∧ o_ + z ≤ 4294967296) (hc : 0 ≤ c ∧ c ≤ 255) :
    Calls Tryz.prog 38 #[.agg #[pt b 0, vi o_, vi z], vi a, vi n, v8 c] w fun e w' => ∃ (F' : Nat → Prop), e = .returned (vi (vbyE m o_ z a n)) ∧ (arR b F' (vfiM m o_ z a n (u8 c))).R w' ∧ Fr w w' F F' := by
 refine enter (args := [.agg #[pt b 0, vi o_, vi z], vi a, vi n, v8 c]) (D := F) (A := [arR b F m]) Tryz.func38 rfl 26 rfl [] (WS.startA (r := arR b F m) hr trivial trivial) fun ac hS => ?_
 refine hS.regS [0, 0] [1, 2, 3] fun ν1 => seg [(4, pt (ν1 0) 0)] [(0, some ((ν1 0), .cells [pt b 0, vi o_, vi z] 28))] [] trivial fun ac wd hS => ?_
 refine wp_seq ?_
 refine wp_region_seq ?_
 refine hS.opsC 3 [0, 0, 0] [1, 2, 3, 4] fun _ => seg [(10, .agg #[pt b 0, vi o_, vi z]), (11, vi a), (12, vi n)] [(0, none)] [.e (ν1 0), .e (ν1 0), .e (ν1 0)] trivial fun ac wd hS => ?_
 refine hS.call0 48 #[.agg #[pt b 0, vi o_, vi z], vi a, vi n] 13 (vw_check b a n o_ z _  (by first | assumption | omega | (simp_all; done) | (simp_all; omega))) fun ac wd hS => ?_
 refine hS.opsC 1 [0] [1, 2, 3, 4] fun _ => seg [(9, vi (vchE z a n))] [(0, none)] [] trivial fun ac wd hS => ?_
 refine list_nil_seq ?_
 refine hS.regS [0, 0] [1, 2, 3, 4, 9] fun _ => seg [(15, vb (((vchE z a n) : Int) != 0))] [(0, none)] [] trivial fun ac wd hS => ?_
 refine hS.condC (((vchE z a n) : Int) != 0) (fun hb1o hb1 => ?_) (fun hb1o hb1 => ?_)
 ·
  have hD := vfi_1 (m := m) (o := o_) (c := u8 c) hb1
  refine hS.regS [0, 0] [] fun _ => seg [(8, vi (vchE z a n))] [] [] trivial fun ac wd hS => ?_
  refine wp_ret ?_
  refine pop_then_ret ?_
  refine St.retC 0 hS (vi (vchE z a n)) [] trivial fun hw => ?_
  refine ⟨F, retd (vint ?_), (res_eq (r := arR b F m) (by exact congrArg _ hD.2) (hw.res 0)), hw.frA⟩
  all_goals (exact hD.1)
 ·
  have hcv := hb1
  have hci := vch_in hcv
  have hD := vfi_2 (m := m) (o := o_) (c := u8 c) hcv
  refine wp_skip ?_
  refine pop_then ?_
  refine wp_region_seq ?_
  refine hS.opsC 8 [0, 0, 0, 0, 0, 20, 0, 0] [] fun _ => seg [(18, pt b 0), (22, vi (o_ + a)), (23, vi n), (24, v8 c)] [] [.p (fit .i64 (o_ + a)), .e (ν1 0), .e (ν1 0)] ⟨fit_i64 (by omega), trivial⟩ fun ac wd hS => ?_
  refine hS.callC 63 #[pt b 0, vi (o_ + a), vi n, v8 c] (ar_Fill_k b F m (o_ + a) n c _ (hS.mem.res 0) (by exact hc)) ?_
  rintro _ wd ⟨F2, rfl, hA, hF⟩
  refine ⟨vi (chkE m (o_ + a) n), rfl, ?_⟩
  replace hS := (hS.to (hS.mem.stepA 0 rfl hA hF)).put (d := 25) (v := vi (chkE m (o_ + a) n)) (by decide)
  clear hF
  refine hS.opsC 1 [0] [] fun _ => seg [(8, vi (chkE m (o_ + a) n))] [] [] trivial fun ac wd hS => ?_
  refine list_nil_seq ?_
  refine wp_ret ?_
  refine St.retC 0 hS (vi (chkE m (o_ + a) n)) [] trivial fun hw => ?_
  refine ⟨F2, retd (vint ?_), (res_eq (r := arR b F2 (filM m (o_ + a) n (u8 c))) (by exact congrArg _ hD.2) (hw.res 0)), hw.frA⟩
  all_goals (exact hD.1)

end Go.Proofs.YtnbkafnikpbmbaaGreatDoor.K
