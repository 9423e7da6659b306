/-
  Walks, printed by w2.py.
-/
import Derived.Test.YtdjhdcaanmkblaaDoorYh
import Derived.Test.YtdjhdcaanmkblaaDoorVz
import Derived.Test.YtdjhdcaanmkblaaDoorCq
import Derived.Test.YtdjhdcaanmkblaaDoorProg
namespace Go.Proofs.YtdjhdcaanmkblaaDoor.K
set_option linter.unusedVariables false
set_option linter.unusedSimpArgs false

set_option maxRecDepth 100000 in
set_option maxHeartbeats 1000000 in
theorem vw_Copy (b : Nat) (F : Nat → Prop) (m : AM) (o_ : Int) (z : Int) (t : Int) (f : Int) (n : Int) (w : World) (hr : (arR b F m).R w) (ho : 0 ≤ o_ ∧ 0 ≤ z ∧ o_ + z ≤ 4294967296) :
    Calls Tryd.prog 84 #[.agg #[pt b 0, vi o_, vi z], vi t, vi f, vi n] w fun e w' => ∃ (F' : Nat → Prop), e = .returned (vi (vcpE m o_ z t f n)) ∧ (arR b F' (vcpM m o_ z t f n)).R w' ∧ Fr w w' F F' := by
 refine enter (args := [.agg #[pt b 0, vi o_, vi z], vi t, vi f, vi n]) (D := F) (A := [arR b F m]) Tryd.func84 rfl 37 rfl [] (WS.startA (r := arR b F m) hr trivial trivial) fun ac hS => ?_
 refine hS.regS [0, 0] [1, 2, 3] fun ν1 => seg [(4, pt (ν1 0) 0)] [(0, some ((ν1 0), .cells [pt b 0, vi o_, vi z] 55))] [] trivial fun ac wd hS => ?_
 refine wp_seq ?_
 refine wp_region_seq ?_
 refine hS.opsC 3 [0, 0, 0] [1, 2, 3, 4] fun _ => seg [(11, .agg #[pt b 0, vi o_, vi z]), (12, vi f), (13, vi n)] [(0, none)] [.e (ν1 0), .e (ν1 0), .e (ν1 0)] trivial fun ac wd hS => ?_
 refine hS.call0 116 #[.agg #[pt b 0, vi o_, vi z], vi f, vi n] 14 (vw_check b f n o_ z _  (by first | assumption | omega | (simp_all; done) | (simp_all; omega))) fun ac wd hS => ?_
 refine hS.opsC 1 [0] [1, 2, 3, 4] fun _ => seg [(9, vi (vchE z f n))] [(0, none)] [] trivial fun ac wd hS => ?_
 refine list_nil_seq ?_
 refine hS.regS [0, 0] [1, 2, 3, 4, 9] fun _ => seg [(16, vb (((vchE z f n) : Int) != 0))] [(0, none)] [] trivial fun ac wd hS => ?_
 refine hS.condC (((vchE z f n) : Int) != 0) (fun hb1o hb1 => ?_) (fun hb1o hb1 => ?_)
 ·
  have hD := vcp_1 (m := m) (o := o_) (z := z) (t := t) (f := f) (n := n) hb1
  refine hS.regS [0, 0] [] fun _ => seg [(8, vi (vchE z f n))] [] [] trivial fun ac wd hS => ?_
  refine wp_ret ?_
  refine pop_then_ret ?_
  refine St.retC 0 hS (vi (vchE z f n)) [] trivial fun hw => ?_
  refine ⟨F, retd (vint ?_), (res_eq (r := arR b F m) (by exact congrArg _ hD.2) (hw.res 0)), hw.frA⟩
  all_goals (exact hD.1)
 ·
  have hc1 := hb1
  have hci1 := vch_in hc1
  refine wp_skip ?_
  refine pop_then ?_
  refine wp_seq ?_
  refine wp_region_seq ?_
  refine hS.opsC 3 [0, 0, 0] [1, 2, 3, 4] fun _ => seg [(18, .agg #[pt b 0, vi o_, vi z]), (19, vi t), (20, vi n)] [(0, none)] [.e (ν1 0), .e (ν1 0), .e (ν1 0)] trivial fun ac wd hS => ?_
  refine hS.call0 116 #[.agg #[pt b 0, vi o_, vi z], vi t, vi n] 21 (vw_check b t n o_ z _  (by first | assumption | omega | (simp_all; done) | (simp_all; omega))) fun ac wd hS => ?_
  refine hS.opsC 1 [0] [1, 2, 3, 4] fun _ => seg [(10, vi (vchE z t n))] [(0, none)] [] trivial fun ac wd hS => ?_
  refine list_nil_seq ?_
  refine hS.regS [0, 0] [1, 2, 3, 4, 10] fun _ => seg [(23, vb (((vchE z t n) : Int) != 0))] [(0, none)] [] trivial fun ac wd hS => ?_
  refine hS.condC (((vchE z t n) : Int) != 0) (fun hb2o hb2 => ?_) (fun hb2o hb2 => ?_)
  ·
   have hD := vcp_2 (m := m) (o := o_) (z := z) (t := t) (f := f) (n := n) hc1 hb2
   refine hS.regS [0, 0] [] fun _ => seg [(8, vi (vchE z t n))] [] [] trivial fun ac wd hS => ?_
   refine wp_ret ?_
   refine pop_then_ret ?_
   refine St.retC 0 hS (vi (vchE z t n)) [] trivial fun hw => ?_
   refine ⟨F, retd (vint ?_), (res_eq (r := arR b F m) (by exact congrArg _ hD.2) (hw.res 0)), hw.frA⟩
   all_goals (exact hD.1)
  ·
   have hc2 := hb2
   have hci2 := vch_in hc2
   have hD := vcp_3 (m := m) (o := o_) (z := z) (t := t) (f := f) (n := n) hc1 hc2
   refine wp_skip ?_
   refine pop_then ?_
   refine wp_region_seq ?_
   refine hS.opsC 11 [0, 0, 0, 0, 0, 20, 0, 0, 0, 20, 0] [] fun _ => seg [(26, pt b 0), (30, vi (o_ + t)), (34, vi (o_ + f)), (35, vi n)] [] [.p (fit .i64 (o_ + f)), .e (ν1 0), .p (fit .i64 (o_ + t)), .e (ν1 0), .e (ν1 0)] ⟨fit_i64 (by omega), fit_i64 (by omega), trivial⟩ fun ac wd hS => ?_
   refine hS.callC 60 #[pt b 0, vi (o_ + t), vi (o_ + f), vi n] (ar_Copy b F m (o_ + t) (o_ + f) n _ (hS.mem.res 0) ) ?_
   rintro _ wd ⟨F3, rfl, hA, hF⟩
   refine ⟨vi (cpyE m (o_ + t) (o_ + f) n), rfl, ?_⟩
   replace hS := (hS.to (hS.mem.stepA 0 rfl hA hF)).put (d := 36) (v := vi (cpyE m (o_ + t) (o_ + f) n)) (by decide)
   clear hF
   refine hS.opsC 1 [0] [] fun _ => seg [(8, vi (cpyE m (o_ + t) (o_ + f) n))] [] [] trivial fun ac wd hS => ?_
   refine list_nil_seq ?_
   refine wp_ret ?_
   refine St.retC 0 hS (vi (cpyE m (o_ + t) (o_ + f) n)) [] trivial fun hw => ?_
   refine ⟨F3, retd (vint ?_), (res_eq (r := arR b F3 (cpyM m (o_ + t) (o_ + f) n)) (by exact congrArg _ hD.2) (hw.res 0)), hw.frA⟩
   all_goals (exact hD.1)

end Go.Proofs.YtdjhdcaanmkblaaDoor.K
