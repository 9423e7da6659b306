/-
  Walks, printed by w2.py.
-/
import Derived.Test.YtdjhdcaanmkblaaDoorYd
import Derived.Test.YtdjhdcaanmkblaaDoorYe
import Derived.Test.YtdjhdcaanmkblaaDoorProg
namespace Go.Proofs.YtdjhdcaanmkblaaDoor.K
set_option linter.unusedVariables false
set_option linter.unusedSimpArgs false

set_option maxRecDepth 100000 in
set_option maxHeartbeats 1000000 in
theorem vw_Of_x (b : Nat) (F : Nat → Prop) (m : AM) (a : Int) (n : Int) (w : World) (hr : (arR b F m).R w) (ht : thr m a n = false) :
    Calls Tryd.prog 23 #[pt b 0, vi a, vi n] w fun e w' => e = .returned (.tuple #[.agg #[pnil, vi 0, vi 0], vi 3]) ∧ Fr w w' no no := by
 refine enter (args := [pt b 0, vi a, vi n]) (D := no) (A := []) Tryd.func23 rfl 25 rfl [] (WS.startL trivial) fun ac hS => ?_
 refine hS.regS [0, 0] [0, 1, 2] fun ν1 => seg [(6, pt (ν1 0) 0)] [(0, some ((ν1 0), .cells [pnil, vi 0, vi 0] 55))] [] trivial fun ac wd hS => ?_
 refine wp_seq ?_
 refine wp_region_seq ?_
 refine hS.opsC 3 [0, 0, 0] [0, 1, 2, 6] fun _ => seg [(11, pt b 0), (12, vi a), (13, vi n)] [(0, none)] [] trivial fun ac wd hS => ?_
 refine hS.call0 47 #[pt b 0, vi a, vi n] 14 (ar_Bytes b F m a n _ (Res.keep hr hS.mem.fr) ) fun ac wd hS => ?_
 refine hS.opsC 5 [0, 0, 0, 0, 0] [0, 1, 2, 6] fun _ => seg [(9, vi (chkE m a n))] [(0, none)] [] trivial fun ac wd hS => ?_
 refine list_nil_seq ?_
 refine hS.regS [0, 0] [0, 1, 2, 6, 9] fun _ => seg [(18, vb (((chkE m a n) : Int) != 0))] [(0, none)] [] trivial fun ac wd hS => ?_
 refine hS.condK (((chkE m a n) : Int) != 0) true (by rw [chk_three ht]; rfl) ?_
 show Code.wp _ _ _ _ _
 refine hS.regS [0, 0, 0, 0] [6] fun _ => seg [(7, vi (chkE m a n))] [(0, none)] [.e (ν1 0), .e (ν1 0), .e (ν1 0)] trivial fun ac wd hS => ?_
 refine wp_ret ?_
 refine pop_then_ret ?_
 refine St.retC 0 hS (.tuple #[.agg #[pnil, vi 0, vi 0], vi (chkE m a n)]) [.e (ν1 0), .e (ν1 0), .e (ν1 0)] trivial fun hw => ?_
 refine ⟨retd (tuple2 rfl (vint ?_)), hw.fr0⟩
 all_goals (exact chk_three ht)

set_option maxRecDepth 100000 in
set_option maxHeartbeats 1000000 in
theorem vw_Part (b : Nat) (F : Nat → Prop) (m : AM) (o_ : Int) (z : Int) (a : Int) (n : Int) (w : World) (hr : (arR b F m).R w) (ho : 0 ≤ o_ ∧ 0 ≤ z ∧ o_ + z ≤ 4294967296) (hc : vchE z a n = 0) (ht : thr m (o_ + a) n = true) :
    Calls Tryd.prog 74 #[.agg #[pt b 0, vi o_, vi z], vi a, vi n] w fun e w' => e = .returned (.tuple #[.agg #[pt b 0, vi (o_ + a), vi n], vi 0]) ∧ Fr w w' no no := by
 have hci := vch_in hc
 refine enter (args := [.agg #[pt b 0, vi o_, vi z], vi a, vi n]) (D := no) (A := []) Tryd.func74 rfl 27 rfl [] (WS.startL trivial) fun ac hS => ?_
 refine hS.regS [0, 0, 0] [1, 2] fun ν1 => seg [(3, pt (ν1 0) 0), (6, pt (ν1 1) 0)] [(0, some ((ν1 0), .cells [pt b 0, vi o_, vi z] 55)), (1, some ((ν1 1), .cells [pnil, vi 0, vi 0] 55))] [] trivial fun ac wd hS => ?_
 refine wp_seq ?_
 refine wp_region_seq ?_
 refine hS.opsC 3 [0, 0, 0] [1, 2, 3, 6] fun _ => seg [(9, .agg #[pt b 0, vi o_, vi z]), (10, vi a), (11, vi n)] [(0, none), (1, none)] [.e (ν1 0), .e (ν1 0), .e (ν1 0)] trivial fun ac wd hS => ?_
 refine hS.call0 116 #[.agg #[pt b 0, vi o_, vi z], vi a, vi n] 12 (vw_check b a n o_ z _  (by first | assumption | omega | (simp_all; done) | (simp_all; omega))) fun ac wd hS => ?_
 refine hS.opsC 1 [0] [1, 2, 3, 6] fun _ => seg [(8, vi (vchE z a n))] [(0, none), (1, none)] [] trivial fun ac wd hS => ?_
 refine list_nil_seq ?_
 refine hS.regS [0, 0] [1, 2, 3, 6, 8] fun _ => seg [(14, vb (((vchE z a n) : Int) != 0))] [(0, none), (1, none)] [] trivial fun ac wd hS => ?_
 refine hS.condK (((vchE z a n) : Int) != 0) false (by rw [hc]; rfl) ?_
 show Code.wp _ _ _ _ _
 refine wp_skip ?_
 refine pop_then ?_
 refine wp_region_seq ?_
 refine hS.opsC 7 [0, 0, 0, 0, 0, 20, 0] [6] fun _ => seg [(18, pt b 0), (22, vi (o_ + a)), (23, vi n)] [(1, none)] [.p (fit .i64 (o_ + a)), .e (ν1 0), .e (ν1 0)] ⟨fit_i64 (by omega), trivial⟩ fun ac wd hS => ?_
 refine hS.call0 23 #[pt b 0, vi (o_ + a), vi n] 24 (vw_Of b F m (o_ + a) n _ (Res.keep hr hS.mem.fr) (by exact ht)) fun ac wd hS => ?_
 refine hS.opsC 4 [0, 0, 0, 0] [6] fun _ => seg [(7, vi 0)] [(0, some ((ν1 1), .cells [pt b 0, vi (o_ + a), vi n] 55))] [.e (ν1 1), .e (ν1 1), .e (ν1 1)] trivial fun ac wd hS => ?_
 refine list_nil_seq ?_
 refine wp_ret ?_
 refine St.retC 0 hS (.tuple #[.agg #[pt b 0, vi (o_ + a), vi n], vi 0]) [.e (ν1 1), .e (ν1 1), .e (ν1 1)] trivial fun hw => ?_
 refine ⟨retd rfl, hw.fr0⟩

set_option maxRecDepth 100000 in
set_option maxHeartbeats 1000000 in
theorem vw_Fill (b : Nat) (F : Nat → Prop) (m : AM) (o_ : Int) (z : Int) (a : Int) (n : Int) (c : Int) (w : World) (hr : (arR b F m).R w) (ho : 0 ≤ o_ ∧ 0 ≤ z ∧ o_ + z ≤ 4294967296) (hc : 0 ≤ c ∧ c ≤ 255) :
    Calls Tryd.prog 82 #[.agg #[pt b 0, vi o_, vi z], vi a, vi n, v8 c] w fun e w' => ∃ (F' : Nat → Prop), e = .returned (vi (vbyE m o_ z a n)) ∧ (arR b F' (vfiM m o_ z a n (u8 c))).R w' ∧ Fr w w' F F' := by
 refine enter (args := [.agg #[pt b 0, vi o_, vi z], vi a, vi n, v8 c]) (D := F) (A := [arR b F m]) Tryd.func82 rfl 26 rfl [] (WS.startA (r := arR b F m) hr trivial trivial) fun ac hS => ?_
 refine hS.regS [0, 0] [1, 2, 3] fun ν1 => seg [(4, pt (ν1 0) 0)] [(0, some ((ν1 0), .cells [pt b 0, vi o_, vi z] 55))] [] trivial fun ac wd hS => ?_
 refine wp_seq ?_
 refine wp_region_seq ?_
 refine hS.opsC 3 [0, 0, 0] [1, 2, 3, 4] fun _ => seg [(10, .agg #[pt b 0, vi o_, vi z]), (11, vi a), (12, vi n)] [(0, none)] [.e (ν1 0), .e (ν1 0), .e (ν1 0)] trivial fun ac wd hS => ?_
 refine hS.call0 116 #[.agg #[pt b 0, vi o_, vi z], vi a, vi n] 13 (vw_check b a n o_ z _  (by first | assumption | omega | (simp_all; done) | (simp_all; omega))) fun ac wd hS => ?_
 refine hS.opsC 1 [0] [1, 2, 3, 4] fun _ => seg [(9, vi (vchE z a n))] [(0, none)] [] trivial fun ac wd hS => ?_
 refine list_nil_seq ?_
 refine hS.regS [0, 0] [1, 2, 3, 4, 9] fun _ => seg [(15, vb (((vchE z a n) : Int) != 0))] [(0, none)] [] trivial fun ac wd hS => ?_
 refine hS.condC (((vchE z a n) : Int) != 0) (fun hb1o hb1 => ?_) (fun hb1o hb1 => ?_)
 ·
  have hD := vfi_1 (m := m) (o := o_) (c := u8 c) hb1
  refine hS.regS [0, 0] [] fun _ => seg [(8, vi (vchE z a n))] [] [] trivial fun ac wd hS => ?_
  refine wp_ret ?_
  refine pop_then_ret ?_
  refine St.retC 0 hS (vi (vchE z a n)) [] trivial fun hw => ?_
  refine ⟨F, retd (vint ?_), (res_eq (r := arR b F m) (by exact congrArg _ hD.2) (hw.res 0)), hw.frA⟩
  all_goals (exact hD.1)
 ·
  have hcv := hb1
  have hci := vch_in hcv
  have hD := vfi_2 (m := m) (o := o_) (c := u8 c) hcv
  refine wp_skip ?_
  refine pop_then ?_
  refine wp_region_seq ?_
  refine hS.opsC 8 [0, 0, 0, 0, 0, 20, 0, 0] [] fun _ => seg [(18, pt b 0), (22, vi (o_ + a)), (23, vi n), (24, v8 c)] [] [.p (fit .i64 (o_ + a)), .e (ν1 0), .e (ν1 0)] ⟨fit_i64 (by omega), trivial⟩ fun ac wd hS => ?_
  refine hS.callC 58 #[pt b 0, vi (o_ + a), vi n, v8 c] (ar_Fill_k b F m (o_ + a) n c _ (hS.mem.res 0) (by exact hc)) ?_
  rintro _ wd ⟨F2, rfl, hA, hF⟩
  refine ⟨vi (chkE m (o_ + a) n), rfl, ?_⟩
  replace hS := (hS.to (hS.mem.stepA 0 rfl hA hF)).put (d := 25) (v := vi (chkE m (o_ + a) n)) (by decide)
  clear hF
  refine hS.opsC 1 [0] [] fun _ => seg [(8, vi (chkE m (o_ + a) n))] [] [] trivial fun ac wd hS => ?_
  refine list_nil_seq ?_
  refine wp_ret ?_
  refine St.retC 0 hS (vi (chkE m (o_ + a) n)) [] trivial fun hw => ?_
  refine ⟨F2, retd (vint ?_), (res_eq (r := arR b F2 (filM m (o_ + a) n (u8 c))) (by exact congrArg _ hD.2) (hw.res 0)), hw.frA⟩
  all_goals (exact hD.1)

end Go.Proofs.YtdjhdcaanmkblaaDoor.K
