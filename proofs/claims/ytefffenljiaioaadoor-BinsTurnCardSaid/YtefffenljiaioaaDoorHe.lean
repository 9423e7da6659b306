/-
  Walks, printed by w2.py.
-/
import Derived.Test.YtefffenljiaioaaDoorHd
import Derived.Test.YtefffenljiaioaaDoorProg
namespace Go.Proofs.YtefffenljiaioaaDoor.K
set_option linter.unusedVariables false
set_option linter.unusedSimpArgs false

set_option maxRecDepth 100000 in
set_option maxHeartbeats 1000000 in
theorem b_Open (b : Nat) (o_ : Int) (z : Int) (w : World) :
    Calls Tryd.prog 78 #[.agg #[pt b 0, vi o_, vi z]] w fun e w' => e = .returned (.agg #[pt b 0, vi o_, vi z]) ∧ Fr w w' no no := by
 refine enter (args := [.agg #[pt b 0, vi o_, vi z]]) (D := no) (A := []) Tryd.func78 rfl 5 rfl [] (WS.startL trivial) fun ac hS => ?_
 refine hS.regS [0, 0] [] fun ν1 => seg [(1, pt (ν1 0) 0), (2, pt (ν1 1) 0)] [(0, some ((ν1 0), .cells [pt b 0, vi o_, vi z] 25)), (1, some ((ν1 1), .cells [pnil, vi 0, vi 0] 67))] [] trivial fun ac wd hS => ?_
 refine hS.regS [0, 0, 100] [2] fun _ => seg [] [(1, some ((ν1 1), .cells [pt b 0, vi o_, vi z] 67))] [.e (ν1 1), .e (ν1 1), .e (ν1 1), .e (ν1 0), .e (ν1 0), .e (ν1 0)] trivial fun ac wd hS => ?_
 refine wp_ret ?_
 refine St.retC 0 hS (.agg #[pt b 0, vi o_, vi z]) [.e (ν1 1), .e (ν1 1), .e (ν1 1)] trivial fun hw => ?_
 refine ⟨retd rfl, hw.fr0⟩

set_option maxRecDepth 100000 in
set_option maxHeartbeats 1000000 in
theorem b_check (b : Nat) (o_ : Int) (z : Int) (w : World) (ho : 0 ≤ o_ ∧ 0 ≤ z ∧ o_ + z ≤ 4294967296) :
    Calls Tryd.prog 82 #[.agg #[pt b 0, vi o_, vi z]] w fun e w' => e = .returned (vi (bnE z)) ∧ Fr w w' no no := by
 refine enter (args := [.agg #[pt b 0, vi o_, vi z]]) (D := no) (A := []) Tryd.func82 rfl 13 rfl [] (WS.startL trivial) fun ac hS => ?_
 refine hS.regS [0, 0] [] fun ν1 => seg [(1, pt (ν1 0) 0)] [(0, some ((ν1 0), .cells [pt b 0, vi o_, vi z] 67))] [] trivial fun ac wd hS => ?_
 refine wp_seq ?_
 refine wp_block ?_
 refine hS.regS [0, 0, 0, 0, 0] [1] fun _ => seg [(3, vb false)] [(0, none)] [.e (ν1 0)] trivial fun ac wd hS => ?_
 refine hS.condF ?_
 refine wp_region_seq ?_
 refine hS.opsC 2 [0, 0] [] fun _ => seg [(10, .agg #[pt b 0, vi o_, vi z])] [] [.e (ν1 0), .e (ν1 0), .e (ν1 0)] trivial fun ac wd hS => ?_
 refine hS.call0 117 #[.agg #[pt b 0, vi o_, vi z]] 11 (vw_Size b o_ z _  ) fun ac wd hS => ?_
 refine hS.opsC 2 [0, 0] [] fun _ => seg [(8, vb (decide ((z : Int) < 40)))] [] [] trivial fun ac wd hS => ?_
 refine list_nil_seq ?_
 refine hS.condC (decide ((z : Int) < 40)) (fun hb1o hb1 => ?_) (fun hb1o hb1 => ?_)
 ·
  refine hS.regS [0] [] fun _ => seg [(2, vi 3)] [] [] trivial fun ac wd hS => ?_
  refine wp_ret ?_
  refine pop_block_ret ?_
  refine pop_then_ret ?_
  refine St.retC 0 hS (vi 3) [] trivial fun hw => ?_
  refine ⟨retd (vint ?_), hw.fr0⟩
  all_goals (first | (unfold bnE; rw [if_pos (by omega)]) | (unfold bnE; rw [if_neg (by omega)]))
 ·
  refine wp_skip ?_
  refine pop_block ?_
  refine pop_then ?_
  refine hS.regS [0] [] fun _ => seg [(2, vi 0)] [] [] trivial fun ac wd hS => ?_
  refine wp_ret ?_
  refine St.retC 0 hS (vi 0) [] trivial fun hw => ?_
  refine ⟨retd (vint ?_), hw.fr0⟩
  all_goals (first | (unfold bnE; rw [if_pos (by omega)]) | (unfold bnE; rw [if_neg (by omega)]))

set_option maxRecDepth 100000 in
set_option maxHeartbeats 1000000 in
theorem b_newest (b : Nat) (F : Nat → Prop) (m : AM) (o_ : Int) (z : Int) (k : Int) (w : World) (hr : (arR b F m).R w) (ho : 0 ≤ o_ ∧ 0 ≤ z ∧ o_ + z ≤ 4294967296) :
    Calls Tryd.prog 83 #[.agg #[pt b 0, vi o_, vi z], vi k] w fun e w' => e = .returned (vi (bnN m o_ z k)) ∧ Fr w w' no no := by
 refine enter (args := [.agg #[pt b 0, vi o_, vi z], vi k]) (D := no) (A := []) Tryd.func83 rfl 28 rfl [] (WS.startL trivial) fun ac hS => ?_
 refine hS.regS [0, 0] [1] fun ν1 => seg [(2, pt (ν1 0) 0)] [(0, some ((ν1 0), .cells [pt b 0, vi o_, vi z] 67))] [] trivial fun ac wd hS => ?_
 refine wp_seq ?_
 refine wp_region_seq ?_
 refine hS.opsC 7 [0, 0, 0, 3, 3, 80, 0] [1, 2] fun _ => seg [(13, vb ((decide ((k : Int) < 0)) || (decide ((4 : Int) < k))))] [(0, none)] [] trivial fun ac wd hS => ?_
 rcases Bool.eq_false_or_eq_true ((decide ((k : Int) < 0)) || (decide ((4 : Int) < k))) with hg1o | hg1o
 ·
  have hg1 := nrm hg1o
  replace hS := hS.fix 13 (vb true) (congrArg Value.bool hg1o)
  refine hS.opsC 4 [2, 2, 2, 70] [1, 2] fun _ => seg [(17, vb true)] [(0, none)] [.t true, .t true, .t true, .t true] trivial fun ac wd hS => ?_
  refine list_nil_seq ?_
  refine hS.condT ?_
  refine hS.regS [0] [] fun _ => seg [(4, vi 0)] [] [] trivial fun ac wd hS => ?_
  refine wp_ret ?_
  refine pop_then_ret ?_
  refine St.retC 0 hS (vi 0) [] trivial fun hw => ?_
  refine ⟨retd (vint ?_), hw.fr0⟩
  all_goals (first | (unfold bnN; rw [if_pos (by omega)]; done) | (unfold bnN; rw [if_neg (by omega)]; done))
 ·
  have hg1 := nrm hg1o
  replace hS := hS.fix 13 (vb false) (congrArg Value.bool hg1o)
  refine hS.opsC 1 [1] [1, 2, 13] fun _ => seg [(14, .agg #[pt b 0, vi o_, vi z])] [(0, none)] [.t false, .e (ν1 0), .e (ν1 0), .e (ν1 0)] trivial fun ac wd hS => ?_
  refine hS.callG false 82 #[.agg #[pt b 0, vi o_, vi z]] (b_check b o_ z _  (by first | assumption | omega | (simp_all; done) | (simp_all; omega))) ?_
  rintro _ wd ⟨rfl, hF⟩
  refine ⟨vi (bnE z), rfl, ?_⟩
  replace hS := (hS.to (hS.mem.keep0 hF)).put (d := 15) (v := vi (bnE z)) (by decide)
  clear hF
  refine hS.opsC 2 [1, 60] [1, 2] fun _ => seg [(17, vb (((bnE z) : Int) != 0))] [(0, none)] [.t false, .t false] trivial fun ac wd hS => ?_
  refine list_nil_seq ?_
  refine hS.condC (((bnE z) : Int) != 0) (fun hb2o hb2 => ?_) (fun hb2o hb2 => ?_)
  ·
   have hz : z < 40 := by have := hb2; (unfold bnE at this; split at this <;> omega)
   refine hS.regS [0] [] fun _ => seg [(4, vi 0)] [] [] trivial fun ac wd hS => ?_
   refine wp_ret ?_
   refine pop_then_ret ?_
   refine St.retC 0 hS (vi 0) [] trivial fun hw => ?_
   refine ⟨retd (vint ?_), hw.fr0⟩
   all_goals (first | (unfold bnN; rw [if_pos (by omega)]; done) | (unfold bnN; rw [if_neg (by omega)]; done))
  ·
   have hz : ¬ z < 40 := by have := hb2; (unfold bnE at this; split at this <;> omega)
   refine wp_skip ?_
   refine pop_then ?_
   refine wp_region_seq ?_
   refine hS.opsC 4 [0, 0, 0, 20] [] fun _ => seg [(20, .agg #[pt b 0, vi o_, vi z]), (22, vi (8 * k))] [] [.p (fit .i64 (8 * k)), .e (ν1 0), .e (ν1 0), .e (ν1 0)] ⟨fit_i64 (by omega), trivial⟩ fun ac wd hS => ?_
   refine hS.call0 65 #[.agg #[pt b 0, vi o_, vi z], vi (8 * k), vi 8] 23 (vw_Load b F m o_ z (8 * k) 8 _ (Res.keep hr hS.mem.fr) (by first | assumption | omega | (simp_all; done) | (simp_all; omega))) fun ac wd hS => ?_
   refine hS.opsC 5 [0, 0, 0, 0, 0] [] fun _ => seg [(5, vu (vldV m o_ z (8 * k) 8))] [] [] trivial fun ac wd hS => ?_
   refine list_nil_seq ?_
   refine hS.regS [0, 0, 0] [] fun _ => seg [(4, vi (IntKind.wrap .i64 (vldV m o_ z (8 * k) 8)))] [] [] trivial fun ac wd hS => ?_
   refine wp_ret ?_
   refine St.retC 0 hS (vi (IntKind.wrap .i64 (vldV m o_ z (8 * k) 8))) [] trivial fun hw => ?_
   refine ⟨retd (vint ?_), hw.fr0⟩
   all_goals (first | (unfold bnN; rw [if_pos (by omega)]; done) | (unfold bnN; rw [if_neg (by omega)]; done))

set_option maxRecDepth 100000 in
set_option maxHeartbeats 1000000 in
theorem b_Push (b : Nat) (F : Nat → Prop) (m : AM) (o_ : Int) (z : Int) (a : Int) (w : World) (hr : (arR b F m).R w) (ho : 0 ≤ o_ ∧ 0 ≤ z ∧ o_ + z ≤ 4294967296) :
    Calls Tryd.prog 29 #[.agg #[pt b 0, vi o_, vi z], vi a] w fun e w' => ∃ (F' : Nat → Prop), e = .returned (vi (bpE m o_ z a)) ∧ (arR b F' (bpM m o_ z a)).R w' ∧ Fr w w' F F' := by
 have hr1 := rdOwn_rng m a
 have hr2 := rdNx_rng m a
 have hr3 := rdOrd_rng m a
 have hr4 := bnN_rng m o_ z (rdOrd m a)
 refine enter (args := [.agg #[pt b 0, vi o_, vi z], vi a]) (D := F) (A := [arR b F m]) Tryd.func29 rfl 51 rfl [] (WS.startA (r := arR b F m) hr trivial trivial) fun ac hS => ?_
 refine hS.regS [0, 0] [1] fun ν1 => seg [(2, pt (ν1 0) 0)] [(0, some ((ν1 0), .cells [pt b 0, vi o_, vi z] 67))] [] trivial fun ac wd hS => ?_
 refine wp_seq ?_
 refine wp_region_seq ?_
 refine hS.opsC 1 [0] [1, 2] fun _ => seg [(8, .agg #[pt b 0, vi o_, vi z])] [(0, none)] [.e (ν1 0), .e (ν1 0), .e (ν1 0)] trivial fun ac wd hS => ?_
 refine hS.call0 82 #[.agg #[pt b 0, vi o_, vi z]] 9 (b_check b o_ z _  (by first | assumption | omega | (simp_all; done) | (simp_all; omega))) fun ac wd hS => ?_
 refine hS.opsC 1 [0] [1, 2] fun _ => seg [(5, vi (bnE z))] [(0, none)] [] trivial fun ac wd hS => ?_
 refine list_nil_seq ?_
 refine hS.regS [0, 0] [1, 2, 5] fun _ => seg [(11, vb (((bnE z) : Int) != 0))] [(0, none)] [] trivial fun ac wd hS => ?_
 refine hS.condC (((bnE z) : Int) != 0) (fun hb1o hb1 => ?_) (fun hb1o hb1 => ?_)
 ·
  have hz : z < 40 := by have := hb1; (unfold bnE at this; split at this <;> omega)
  have hE := (bp_1 (m := m) (o := o_) (z := z) (a := a) hz).1
  have hM := (bp_1 (m := m) (o := o_) (z := z) (a := a) hz).2
  refine hS.regS [0, 0] [] fun _ => seg [(4, vi (bnE z))] [] [] trivial fun ac wd hS => ?_
  refine wp_ret ?_
  refine pop_then_ret ?_
  refine St.retC 0 hS (vi (bnE z)) [] trivial fun hw => ?_
  refine ⟨F, retd (vint ?_), (res_eq (r := arR b F m) (by exact congrArg _ hM) (hw.res 0)), hw.frA⟩
  all_goals (first | exact hE | (rw [← hE]; unfold bnE; rw [if_pos hz]))
 ·
  have hz : ¬ z < 40 := by have := hb1; (unfold bnE at this; split at this <;> omega)
  refine wp_skip ?_
  refine pop_then ?_
  refine wp_region_seq ?_
  refine hS.opsC 4 [0, 0, 0, 0] [1, 2] fun _ => seg [(16, pt b 0), (17, vi a)] [(0, none)] [.e (ν1 0)] trivial fun ac wd hS => ?_
  refine hS.call0 31 #[pt b 0, vi a] 18 (chunk_Read b F m a _ (hS.mem.res 0) ) fun ac wd hS => ?_
  refine hS.opsC 6 [0, 0, 0, 0, 100, 0] [1, 2] fun ν7 => seg [(6, pt (ν7 0) 0), (7, vi (rdE m a))] [(0, none), (1, some ((ν7 0), .cells [vi (rdAt m a), vi (rdOrd m a), vu (rdOwn m a), vi (rdNx m a)] 71))] [.e (ν7 0), .e (ν7 0), .e (ν7 0), .e (ν7 0)] trivial fun ac wd hS => ?_
  refine list_nil_seq ?_
  refine wp_seq ?_
  refine wp_block ?_
  refine hS.regS [0, 0, 0] [1, 2, 6, 7] fun _ => seg [(21, vb (((rdE m a) : Int) != 0))] [(0, none), (1, none)] [] trivial fun ac wd hS => ?_
  refine hS.condC (((rdE m a) : Int) != 0) (fun hb2o hb2 => ?_) (fun hb2o hb2 => ?_)
  ·
   have h2 : rdE m a ≠ 0 := hb2
   have hE := (bp_2 (m := m) (o := o_) (z := z) (a := a) hz h2).1
   have hM := (bp_2 (m := m) (o := o_) (z := z) (a := a) hz h2).2
   refine hS.regS [0, 0] [] fun _ => seg [(4, vi (rdE m a))] [] [] trivial fun ac wd hS => ?_
   refine wp_ret ?_
   refine pop_block_ret ?_
   refine pop_then_ret ?_
   refine St.retC 0 hS (vi (rdE m a)) [] trivial fun hw => ?_
   refine ⟨F, retd (vint ?_), (res_eq (r := arR b F m) (by exact congrArg _ hM) (hw.res 0)), hw.frA⟩
   all_goals (first | exact hE | (rw [← hE]; unfold bnE; rw [if_pos hz]))
  ·
   have h2 : ¬ rdE m a ≠ 0 := fun q => q hb2
   refine hS.regS [0, 100, 0, 0] [1, 2, 6] fun _ => seg [(25, vb (decide ((4 : Int) < (rdOrd m a))))] [(0, none), (1, none)] [.e (ν7 0)] trivial fun ac wd hS => ?_
   refine hS.condC (decide ((4 : Int) < (rdOrd m a))) (fun hb3o hb3 => ?_) (fun hb3o hb3 => ?_)
   ·
    have h3 : 4 < rdOrd m a := by have := hb3; omega
    have hE := (bp_3 (m := m) (o := o_) (z := z) (a := a) hz h2 h3).1
    have hM := (bp_3 (m := m) (o := o_) (z := z) (a := a) hz h2 h3).2
    refine hS.regS [0] [] fun _ => seg [(4, vi 2)] [] [] trivial fun ac wd hS => ?_
    refine wp_ret ?_
    refine pop_block_ret ?_
    refine pop_then_ret ?_
    refine St.retC 0 hS (vi 2) [] trivial fun hw => ?_
    refine ⟨F, retd (vint ?_), (res_eq (r := arR b F m) (by exact congrArg _ hM) (hw.res 0)), hw.frA⟩
    all_goals (first | exact hE | (rw [← hE]; unfold bnE; rw [if_pos hz]))
   ·
    have h3 : ¬ 4 < rdOrd m a := by have := hb3; omega
    refine hS.regS [0, 100, 0, 0] [1, 2, 6] fun _ => seg [(29, vb (((rdOwn m a) : Int) != 0))] [(0, none), (1, none)] [.e (ν7 0)] trivial fun ac wd hS => ?_
    refine hS.condC (((rdOwn m a) : Int) != 0) (fun hb4o hb4 => ?_) (fun hb4o hb4 => ?_)
    ·
     have h4 : rdOwn m a ≠ 0 := hb4
     have hE := (bp_4 (m := m) (o := o_) (z := z) (a := a) hz h2 h3 h4).1
     have hM := (bp_4 (m := m) (o := o_) (z := z) (a := a) hz h2 h3 h4).2
     refine hS.regS [0] [] fun _ => seg [(4, vi 11)] [] [] trivial fun ac wd hS => ?_
     refine wp_ret ?_
     refine pop_block_ret ?_
     refine pop_then_ret ?_
     refine St.retC 0 hS (vi 11) [] trivial fun hw => ?_
     refine ⟨F, retd (vint ?_), (res_eq (r := arR b F m) (by exact congrArg _ hM) (hw.res 0)), hw.frA⟩
     all_goals (first | exact hE | (rw [← hE]; unfold bnE; rw [if_pos hz]))
    ·
     have h4 : ¬ rdOwn m a ≠ 0 := fun q => q hb4
     have hE := (bp_5 (m := m) (o := o_) (z := z) (a := a) hz h2 h3 h4).1
     have hM := (bp_5 (m := m) (o := o_) (z := z) (a := a) hz h2 h3 h4).2
     refine wp_skip ?_
     refine pop_block ?_
     refine pop_then ?_
     refine wp_region_seq ?_
     refine hS.opsC 3 [0, 0, 100] [1, 2, 6] fun _ => seg [(33, .agg #[pt b 0, vi o_, vi z]), (35, vi (rdOrd m a))] [(0, none), (1, none)] [.e (ν7 0), .e (ν1 0), .e (ν1 0), .e (ν1 0)] trivial fun ac wd hS => ?_
     refine hS.call0 83 #[.agg #[pt b 0, vi o_, vi z], vi (rdOrd m a)] 36 (b_newest b F m o_ z (rdOrd m a) _ (hS.mem.res 0) (by first | assumption | omega | (simp_all; done) | (simp_all; omega))) fun ac wd hS => ?_
     refine hS.opsC 2 [0, 100] [1, 2, 6] fun _ => seg [] [(0, none), (1, some ((ν7 0), .cells [vi (rdAt m a), vi (rdOrd m a), vu (rdOwn m a), vi (bnN m o_ z (rdOrd m a))] 71))] [.e (ν7 0)] trivial fun ac wd hS => ?_
     refine list_nil_seq ?_
     refine wp_region_seq ?_
     refine hS.opsC 4 [0, 0, 0, 100] [1, 2, 6] fun _ => seg [(40, pt b 0), (41, .agg #[vi (rdAt m a), vi (rdOrd m a), vu (rdOwn m a), vi (bnN m o_ z (rdOrd m a))])] [(0, none), (1, none)] [.e (ν7 0), .e (ν7 0), .e (ν7 0), .e (ν7 0), .e (ν1 0)] trivial fun ac wd hS => ?_
     refine hS.callC 28 #[pt b 0, .agg #[vi (rdAt m a), vi (rdOrd m a), vu (rdOwn m a), vi (bnN m o_ z (rdOrd m a))]] (chunk_Write b F m (rdAt m a) (rdOrd m a) (rdOwn m a) (bnN m o_ z (rdOrd m a)) _ (hS.mem.res 0) (by first | assumption | omega | (simp_all; done) | (simp_all; omega))) ?_
     rintro _ wd ⟨F5, rfl, hA, hF⟩
     refine ⟨vi (wrcE m (rdAt m a) (rdOrd m a) (rdOwn m a) (bnN m o_ z (rdOrd m a))), rfl, ?_⟩
     replace hS := (hS.to (hS.mem.stepA 0 rfl hA hF)).put (d := 42) (v := vi (wrcE m (rdAt m a) (rdOrd m a) (rdOwn m a) (bnN m o_ z (rdOrd m a)))) (by decide)
     clear hF
     refine list_nil_seq ?_
     refine wp_region_seq ?_
     refine hS.opsC 7 [0, 0, 0, 100, 20, 0, 0] [] fun _ => seg [(44, .agg #[pt b 0, vi o_, vi z]), (47, vi (8 * (rdOrd m a))), (49, vu (IntKind.wrap .u64 a))] [] [.p (fit .i64 (8 * (rdOrd m a))), .e (ν7 0), .e (ν1 0), .e (ν1 0), .e (ν1 0)] ⟨fit_i64 (by omega), trivial⟩ fun ac wd hS => ?_
     refine hS.callC 84 #[.agg #[pt b 0, vi o_, vi z], vi (8 * (rdOrd m a)), vi 8, vu (IntKind.wrap .u64 a)] (vw_Store b F5 (wrcM m (rdAt m a) (rdOrd m a) (rdOwn m a) (bnN m o_ z (rdOrd m a))) o_ z (8 * (rdOrd m a)) 8 (IntKind.wrap .u64 a) _ (hS.mem.res 0) (by first | assumption | omega | (simp_all; done) | (simp_all; omega))) ?_
     rintro _ wd ⟨F6, rfl, hA, hF⟩
     refine ⟨vi (vstE (wrcM m (rdAt m a) (rdOrd m a) (rdOwn m a) (bnN m o_ z (rdOrd m a))) o_ z (8 * (rdOrd m a)) 8), rfl, ?_⟩
     replace hS := (hS.to (hS.mem.stepA 0 rfl hA hF)).put (d := 50) (v := vi (vstE (wrcM m (rdAt m a) (rdOrd m a) (rdOwn m a) (bnN m o_ z (rdOrd m a))) o_ z (8 * (rdOrd m a)) 8)) (by decide)
     clear hF
     refine hS.opsC 1 [0] [] fun _ => seg [(4, vi (vstE (wrcM m (rdAt m a) (rdOrd m a) (rdOwn m a) (bnN m o_ z (rdOrd m a))) o_ z (8 * (rdOrd m a)) 8))] [] [] trivial fun ac wd hS => ?_
     refine list_nil_seq ?_
     refine wp_ret ?_
     refine St.retC 0 hS (vi (vstE (wrcM m (rdAt m a) (rdOrd m a) (rdOwn m a) (bnN m o_ z (rdOrd m a))) o_ z (8 * (rdOrd m a)) 8)) [] trivial fun hw => ?_
     refine ⟨F6, retd (vint ?_), (res_eq (r := arR b F6 (vstM (wrcM m (rdAt m a) (rdOrd m a) (rdOwn m a) (bnN m o_ z (rdOrd m a))) o_ z (8 * (rdOrd m a)) 8 (IntKind.wrap .u64 a))) (by exact congrArg _ hM) (hw.res 0)), hw.frA⟩
     all_goals (first | exact hE | (rw [← hE]; unfold bnE; rw [if_pos hz]))

set_option maxRecDepth 100000 in
set_option maxHeartbeats 1000000 in
theorem b_Pop (b : Nat) (F : Nat → Prop) (m : AM) (o_ : Int) (z : Int) (k : Int) (w : World) (hr : (arR b F m).R w) (ho : 0 ≤ o_ ∧ 0 ≤ z ∧ o_ + z ≤ 4294967296) :
    Calls Tryd.prog 30 #[.agg #[pt b 0, vi o_, vi z], vi k] w fun e w' => ∃ (F' : Nat → Prop), e = .returned (.tuple #[.agg #[vi (bqAt m o_ z k), vi (bqOrd m o_ z k), vu (bqOwn m o_ z k), vi 0], vb (bqOk m o_ z k)]) ∧ (arR b F' (bqM m o_ z k)).R w' ∧ Fr w w' F F' := by
 have hr1 := rdOwn_rng m (bnN m o_ z k)
 have hr2 := rdNx_rng m (bnN m o_ z k)
 have hr4 := bnN_rng m o_ z k
 refine enter (args := [.agg #[pt b 0, vi o_, vi z], vi k]) (D := F) (A := [arR b F m]) Tryd.func30 rfl 38 rfl [] (WS.startA (r := arR b F m) hr trivial trivial) fun ac hS => ?_
 refine hS.regS [0, 0, 0] [1] fun ν1 => seg [(2, pt (ν1 0) 0), (4, pt (ν1 1) 0)] [(0, some ((ν1 0), .cells [pt b 0, vi o_, vi z] 67)), (1, some ((ν1 1), .cells [vi 0, vi 0, vu 0, vi 0] 71))] [] trivial fun ac wd hS => ?_
 refine wp_region_seq ?_
 refine hS.opsC 2 [0, 0] [1, 2, 4] fun _ => seg [(9, .agg #[pt b 0, vi o_, vi z]), (10, vi k)] [(0, none), (1, none)] [.e (ν1 0), .e (ν1 0), .e (ν1 0)] trivial fun ac wd hS => ?_
 refine hS.call0 83 #[.agg #[pt b 0, vi o_, vi z], vi k] 11 (b_newest b F m o_ z k _ (hS.mem.res 0) (by first | assumption | omega | (simp_all; done) | (simp_all; omega))) fun ac wd hS => ?_
 refine hS.opsC 1 [0] [1, 2, 4] fun _ => seg [(6, vi (bnN m o_ z k))] [(0, none), (1, none)] [] trivial fun ac wd hS => ?_
 refine list_nil_seq ?_
 refine wp_seq ?_
 refine hS.regS [0, 0] [1, 2, 4, 6] fun _ => seg [(13, vb (((bnN m o_ z k) : Int) == 0))] [(0, none), (1, none)] [] trivial fun ac wd hS => ?_
 refine hS.condC (((bnN m o_ z k) : Int) == 0) (fun hb1o hb1 => ?_) (fun hb1o hb1 => ?_)
 ·
  have hb0 : bnN m o_ z k = 0 := hb1
  have hq := bq_no hb0
  refine hS.regS [0, 100, 0] [4] fun _ => seg [(5, vb false)] [(1, none)] [.e (ν1 1), .e (ν1 1), .e (ν1 1), .e (ν1 1)] trivial fun ac wd hS => ?_
  refine wp_ret ?_
  refine pop_then_ret ?_
  refine St.retC 0 hS (.tuple #[.agg #[vi 0, vi 0, vu 0, vi 0], vb false]) [.e (ν1 1), .e (ν1 1), .e (ν1 1), .e (ν1 1)] trivial fun hw => ?_
  refine ⟨F, retd (tuple2 (agg4 (vint ?_) (vint ?_) (vint ?_) rfl) (vbool ?_)), (res_eq (r := arR b F m) (by exact congrArg _ hq.2) (hw.res 0)), hw.frA⟩
  all_goals (first | exact hq.1.1 | exact hq.1.2.1 | exact hq.1.2.2.1 | exact hq.1.2.2.2)
 ·
  have hb0 : bnN m o_ z k ≠ 0 := hb1
  obtain ⟨hk1, hk2, hk3⟩ := bnN_in hb0
  have hq := bq_yes hb0
  refine wp_skip ?_
  refine pop_then ?_
  refine wp_region_seq ?_
  refine hS.opsC 4 [0, 0, 0, 0] [1, 2, 4] fun _ => seg [(18, pt b 0), (19, vi (bnN m o_ z k))] [(0, none), (1, none)] [.e (ν1 0)] trivial fun ac wd hS => ?_
  refine hS.call0 31 #[pt b 0, vi (bnN m o_ z k)] 20 (chunk_Read b F m (bnN m o_ z k) _ (hS.mem.res 0) ) fun ac wd hS => ?_
  refine hS.opsC 6 [0, 0, 0, 0, 200, 0] [1, 2, 4] fun ν7 => seg [(7, pt (ν7 0) 0)] [(0, none), (1, none), (2, some ((ν7 0), .cells [vi (rdAt m (bnN m o_ z k)), vi (rdOrd m (bnN m o_ z k)), vu (rdOwn m (bnN m o_ z k)), vi (rdNx m (bnN m o_ z k))] 71))] [.e (ν7 0), .e (ν7 0), .e (ν7 0), .e (ν7 0)] trivial fun ac wd hS => ?_
  refine list_nil_seq ?_
  refine wp_region_seq ?_
  refine hS.opsC 7 [0, 0, 0, 20, 0, 200, 0] [2, 4, 7] fun _ => seg [(24, .agg #[pt b 0, vi o_, vi z]), (26, vi (8 * k)), (29, vu (IntKind.wrap .u64 (rdNx m (bnN m o_ z k))))] [(0, none), (1, none), (2, none)] [.e (ν7 0), .p (fit .i64 (8 * k)), .e (ν1 0), .e (ν1 0), .e (ν1 0)] ⟨fit_i64 (by omega), trivial⟩ fun ac wd hS => ?_
  refine hS.callC 84 #[.agg #[pt b 0, vi o_, vi z], vi (8 * k), vi 8, vu (IntKind.wrap .u64 (rdNx m (bnN m o_ z k)))] (vw_Store b F m o_ z (8 * k) 8 (IntKind.wrap .u64 (rdNx m (bnN m o_ z k))) _ (hS.mem.res 0) (by first | assumption | omega | (simp_all; done) | (simp_all; omega))) ?_
  rintro _ wd ⟨F2, rfl, hA, hF⟩
  refine ⟨vi (vstE m o_ z (8 * k) 8), rfl, ?_⟩
  replace hS := (hS.to (hS.mem.stepA 0 rfl hA hF)).put (d := 30) (v := vi (vstE m o_ z (8 * k) 8)) (by decide)
  clear hF
  refine list_nil_seq ?_
  refine hS.regS [0, 200] [2, 4, 7] fun _ => seg [] [(0, none), (1, none), (2, some ((ν7 0), .cells [vi (rdAt m (bnN m o_ z k)), vi (rdOrd m (bnN m o_ z k)), vu (rdOwn m (bnN m o_ z k)), vi 0] 71))] [.e (ν7 0)] trivial fun ac wd hS => ?_
  refine wp_region_seq ?_
  refine hS.opsC 4 [0, 0, 0, 200] [4, 7] fun _ => seg [(34, pt b 0), (35, .agg #[vi (rdAt m (bnN m o_ z k)), vi (rdOrd m (bnN m o_ z k)), vu (rdOwn m (bnN m o_ z k)), vi 0])] [(1, none), (2, none)] [.e (ν7 0), .e (ν7 0), .e (ν7 0), .e (ν7 0), .e (ν1 0)] trivial fun ac wd hS => ?_
  refine hS.callC 28 #[pt b 0, .agg #[vi (rdAt m (bnN m o_ z k)), vi (rdOrd m (bnN m o_ z k)), vu (rdOwn m (bnN m o_ z k)), vi 0]] (chunk_Write b F2 (vstM m o_ z (8 * k) 8 (IntKind.wrap .u64 (rdNx m (bnN m o_ z k)))) (rdAt m (bnN m o_ z k)) (rdOrd m (bnN m o_ z k)) (rdOwn m (bnN m o_ z k)) 0 _ (hS.mem.res 0) (by first | assumption | omega | (simp_all; done) | (simp_all; omega))) ?_
  rintro _ wd ⟨F3, rfl, hA, hF⟩
  refine ⟨vi (wrcE (vstM m o_ z (8 * k) 8 (IntKind.wrap .u64 (rdNx m (bnN m o_ z k)))) (rdAt m (bnN m o_ z k)) (rdOrd m (bnN m o_ z k)) (rdOwn m (bnN m o_ z k)) 0), rfl, ?_⟩
  replace hS := (hS.to (hS.mem.stepA 0 rfl hA hF)).put (d := 36) (v := vi (wrcE (vstM m o_ z (8 * k) 8 (IntKind.wrap .u64 (rdNx m (bnN m o_ z k)))) (rdAt m (bnN m o_ z k)) (rdOrd m (bnN m o_ z k)) (rdOwn m (bnN m o_ z k)) 0)) (by decide)
  clear hF
  refine list_nil_seq ?_
  refine hS.regS [100, 0, 0] [4] fun _ => seg [(5, vb true)] [(0, some ((ν1 1), .cells [vi (rdAt m (bnN m o_ z k)), vi (rdOrd m (bnN m o_ z k)), vu (rdOwn m (bnN m o_ z k)), vi 0] 71))] [.e (ν1 1), .e (ν1 1), .e (ν1 1), .e (ν1 1), .e (ν7 0), .e (ν7 0), .e (ν7 0), .e (ν7 0)] trivial fun ac wd hS => ?_
  refine wp_ret ?_
  refine St.retC 0 hS (.tuple #[.agg #[vi (rdAt m (bnN m o_ z k)), vi (rdOrd m (bnN m o_ z k)), vu (rdOwn m (bnN m o_ z k)), vi 0], vb true]) [.e (ν1 1), .e (ν1 1), .e (ν1 1), .e (ν1 1)] trivial fun hw => ?_
  refine ⟨F3, retd (tuple2 (agg4 (vint ?_) (vint ?_) (vint ?_) rfl) (vbool ?_)), (res_eq (r := arR b F3 (wrcM (vstM m o_ z (8 * k) 8 (IntKind.wrap .u64 (rdNx m (bnN m o_ z k)))) (rdAt m (bnN m o_ z k)) (rdOrd m (bnN m o_ z k)) (rdOwn m (bnN m o_ z k)) 0)) (by exact congrArg _ hq.2) (hw.res 0)), hw.frA⟩
  all_goals (first | exact hq.1.1 | exact hq.1.2.1 | exact hq.1.2.2.1 | exact hq.1.2.2.2)

set_option maxRecDepth 100000 in
set_option maxHeartbeats 1000000 in
theorem law11_open (w : World) :
    Calls Tryd.prog 27 #[] w fun e w' => ∃ (b' : Nat) (F' : Nat → Prop), e = .returned (.tuple #[pt b' 0, .agg #[pt b' 0, vi 100, vi 44], vb true]) ∧ (arR b' F' (comM (AM.new 13) 0 12)).R w' ∧ Fr w w' no F' := by
 refine enter (args := []) (D := no) (A := []) Tryd.func27 rfl 24 rfl [] (WS.startL trivial) fun ac hS => ?_
 refine hS.regS [0, 0, 0] [] fun ν1 => seg [(1, pt (ν1 0) 0)] [(0, some ((ν1 0), .cells [pnil, vi 0, vi 0] 67))] [] trivial fun ac wd hS => ?_
 refine wp_region_seq ?_
 refine hS.callC 46 #[vi 13] (ar_New 13 _  ) ?_
 rintro _ wd ⟨b'1, F2, rfl, hN, hF⟩
 refine ⟨pt b'1 0, rfl, ?_⟩
 replace hS := (hS.to (hS.mem.newA hN hF)).put (d := 7) (v := pt b'1 0) (by decide)
 clear hF
 refine hS.opsC 1 [0] [1] fun _ => seg [(3, pt b'1 0)] [(0, none)] [] trivial fun ac wd hS => ?_
 refine list_nil_seq ?_
 refine wp_region_seq ?_
 refine hS.opsC 1 [0] [1, 3] fun _ => seg [(8, pt b'1 0)] [(0, none)] [] trivial fun ac wd hS => ?_
 refine hS.callC 48 #[pt b'1 0, vi 0, vi 12] (ar_Commit b'1 F2 (AM.new 13) 0 12 _ (hS.mem.res 0) ) ?_
 rintro _ wd ⟨F3, rfl, hA, hF⟩
 refine ⟨vi (comE (AM.new 13) 0 12), rfl, ?_⟩
 replace hS := (hS.to (hS.mem.stepA 0 rfl hA hF)).put (d := 9) (v := vi (comE (AM.new 13) 0 12)) (by decide)
 clear hF
 refine hS.opsC 1 [0] [1, 3] fun _ => seg [(4, vi (comE (AM.new 13) 0 12))] [(0, none)] [] trivial fun ac wd hS => ?_
 refine list_nil_seq ?_
 refine wp_region_seq ?_
 refine hS.opsC 1 [0] [1, 3, 4] fun _ => seg [(11, pt b'1 0)] [(0, none)] [] trivial fun ac wd hS => ?_
 refine hS.call0 50 #[pt b'1 0, vi 100, vi 44] 12 (vw_Of b'1 F3 (comM (AM.new 13) 0 12) 100 44 _ (hS.mem.res 0) (by decide +kernel)) fun ac wd hS => ?_
 refine hS.opsC 6 [0, 0, 0, 0, 100, 0] [1, 3, 4] fun ν6 => seg [(5, pt (ν6 0) 0), (6, vi 0)] [(0, none), (1, some ((ν6 0), .cells [pt b'1 0, vi 100, vi 44] 25))] [.e (ν6 0), .e (ν6 0), .e (ν6 0)] trivial fun ac wd hS => ?_
 refine list_nil_seq ?_
 refine wp_region_seq ?_
 refine hS.opsC 2 [0, 100] [1, 4, 6] fun _ => seg [(15, pt b'1 0), (16, .agg #[pt b'1 0, vi 100, vi 44])] [(0, none)] [.e (ν6 0), .e (ν6 0), .e (ν6 0)] trivial fun ac wd hS => ?_
 refine hS.call0 78 #[.agg #[pt b'1 0, vi 100, vi 44]] 17 (b_Open b'1 100 44 _  ) fun ac wd hS => ?_
 refine hS.opsC 9 [0, 0, 0, 3, 3, 80, 0, 0, 0] [1] fun _ => seg [(0, pt b'1 0), (2, vb ((((comE (AM.new 13) 0 12) : Int) == 0) && true))] [(0, some ((ν1 0), .cells [pt b'1 0, vi 100, vi 44] 67))] [.e (ν1 0), .e (ν1 0), .e (ν1 0)] trivial fun ac wd hS => ?_
 refine list_nil_seq ?_
 refine wp_ret ?_
 refine St.retC 0 hS (.tuple #[pt b'1 0, .agg #[pt b'1 0, vi 100, vi 44], vb ((((comE (AM.new 13) 0 12) : Int) == 0) && true)]) [.e (ν1 0), .e (ν1 0), .e (ν1 0)] trivial fun hw => ?_
 refine ⟨b'1, F3, retd (tuple3 rfl rfl (vbool ?_)), (hw.res 0), hw.frA⟩
 all_goals (first | rfl | decide +kernel)

set_option maxRecDepth 100000 in
set_option maxHeartbeats 1000000 in
theorem law11_awake (w : World) (hh0 : HE.holds w 1 (.fn 0 64 dbT)) :
    Calls Tryd.prog 26 #[] w fun e w' => e = .returned (vb true) ∧ Fr w w' no no := by
 refine enter (args := []) (D := no) (A := []) Tryd.func26 rfl 51 rfl [(1, .fn 0 64 dbT)] (WS.startL ⟨⟨rfl, hh0⟩, trivial⟩) fun ac hS => ?_
 refine hS.regS [0] [] fun _ => seg [] [(0, none)] [] trivial fun ac wd hS => ?_
 refine wp_region_seq ?_
 refine hS.callC 27 #[] (law11_open  _  ) ?_
 rintro _ wd ⟨b'1, F2, rfl, hN, hF⟩
 refine ⟨.tuple #[pt b'1 0, .agg #[pt b'1 0, vi 100, vi 44], vb true], rfl, ?_⟩
 replace hS := (hS.to (hS.mem.newA hN hF)).put (d := 9) (v := .tuple #[pt b'1 0, .agg #[pt b'1 0, vi 100, vi 44], vb true]) (by decide)
 clear hF
 refine hS.opsC 8 [0, 0, 0, 0, 0, 0, 100, 0] [] fun ν2 => seg [(1, pt b'1 0), (2, pt (ν2 0) 0), (3, vb true)] [(0, none), (1, some ((ν2 0), .cells [pt b'1 0, vi 100, vi 44] 67))] [.e (ν2 0), .e (ν2 0), .e (ν2 0)] trivial fun ac wd hS => ?_
 refine list_nil_seq ?_
 refine wp_seq ?_
 refine hS.regS [0, 0, 0] [1, 2, 3] fun ν3 => seg [(13, sc (ν3 0) 0 2 2), (14, vi 2), (15, vi 0)] [(0, none), (1, none), (2, some ((ν3 0), .cells [vi 4096, vi 8192] 3))] [] trivial fun ac wd hS => ?_
 refine wp_block ?_
 refine wp_loop_rounds 3 ?_
 refine rounds_in ?_
 refine hS.regS [0] [1, 2, 3, 13, 14, 15] fun _ => seg [(16, vb true)] [(0, none), (1, none), (2, none)] [] trivial fun ac wd hS => ?_
 refine wp_seq ?_
 refine hS.condT ?_
 refine wp_skip ?_
 refine pop_then ?_
 refine wp_seq ?_
 refine wp_block ?_
 refine hS.regS [0, 200, 0] [1, 2, 3, 13, 14, 15] fun _ => seg [(5, vi 4096)] [(0, none), (1, none), (2, none)] [.e (ν3 0)] trivial fun ac wd hS => ?_
 refine wp_region_lit ?_
 refine hS.opsC 2 [0, 0] [1, 2, 3, 5, 13, 14, 15] fun _ => seg [(20, vb true)] [(0, none), (1, none), (2, none)] [] trivial fun ac wd hS => ?_
 refine hS.opsC 3 [1, 1, 1] [1, 2, 3, 5, 13, 14, 15, 20] fun _ => seg [(21, pt b'1 0), (23, .agg #[vi 4096, vi 0, vu 0, vi 0])] [(0, none), (1, none), (2, none)] [.t true, .t true, .t true] trivial fun ac wd hS => ?_
 refine hS.callG true 28 #[pt b'1 0, .agg #[vi 4096, vi 0, vu 0, vi 0]] (chunk_Write b'1 F2 (comM (AM.new 13) 0 12) 4096 0 0 0 _ (hS.mem.res 0) (by decide)) ?_
 rintro _ wd ⟨F3, rfl, hA, hF⟩
 refine ⟨vi (wrcE (comM (AM.new 13) 0 12) 4096 0 0 0), rfl, ?_⟩
 replace hS := (hS.to (hS.mem.stepA 0 rfl hA hF)).put (d := 24) (v := vi (wrcE (comM (AM.new 13) 0 12) 4096 0 0 0)) (by decide)
 clear hF
 replace hS := hS.fix 24 (vi 0) (show (vi (wrcE (comM (AM.new 13) 0 12) 4096 0 0 0) : Value) = vi 0 from (vint (by decide +kernel)))
 refine hS.opsC 3 [1, 70, 0] [1, 2, 3, 5, 13, 14, 15] fun _ => seg [(27, vb true)] [(0, none), (1, none), (2, none)] [.t true, .t true] trivial fun ac wd hS => ?_
 refine hS.opsC 2 [101, 1] [1, 2, 3, 13, 14, 15, 27] fun _ => seg [(28, .agg #[pt b'1 0, vi 100, vi 44]), (29, vi 4096)] [(0, none), (1, none), (2, none)] [.t true, .t true, .e (ν2 0), .e (ν2 0), .e (ν2 0)] trivial fun ac wd hS => ?_
 refine hS.callG true 29 #[.agg #[pt b'1 0, vi 100, vi 44], vi 4096] (b_Push b'1 F3 (wrcM (comM (AM.new 13) 0 12) 4096 0 0 0) 100 44 4096 _ (hS.mem.res 0) (by decide)) ?_
 rintro _ wd ⟨F4, rfl, hA, hF⟩
 refine ⟨vi (bpE (wrcM (comM (AM.new 13) 0 12) 4096 0 0 0) 100 44 4096), rfl, ?_⟩
 replace hS := (hS.to (hS.mem.stepA 0 rfl hA hF)).put (d := 30) (v := vi (bpE (wrcM (comM (AM.new 13) 0 12) 4096 0 0 0) 100 44 4096)) (by decide)
 clear hF
 replace hS := hS.fix 30 (vi 0) (show (vi (bpE (wrcM (comM (AM.new 13) 0 12) 4096 0 0 0) 100 44 4096) : Value) = vi 0 from (vint (by decide +kernel)))
 refine hS.opsC 3 [1, 70, 0] [1, 2, 13, 14, 15] fun _ => seg [(3, vb true)] [(0, none), (1, none), (2, none)] [.t true, .t true] trivial fun ac wd hS => ?_
 refine list_nil ?_
 refine pop_block ?_
 refine pop_then ?_
 refine hS.regC [0, 0] [1, 2, 3, 13, 14] fun _ => seg [(15, vi 1)] [(0, none), (1, none), (2, none)] [] trivial fun ac wd hS => ?_
 refine pop_then ?_
 refine rounds_in ?_
 refine hS.regS [0] [1, 2, 3, 13, 14, 15] fun _ => seg [(16, vb true)] [(0, none), (1, none), (2, none)] [] trivial fun ac wd hS => ?_
 refine wp_seq ?_
 refine hS.condT ?_
 refine wp_skip ?_
 refine pop_then ?_
 refine wp_seq ?_
 refine wp_block ?_
 refine hS.regS [0, 200, 0] [1, 2, 3, 13, 14, 15] fun _ => seg [(5, vi 8192)] [(0, none), (1, none), (2, none)] [.e (ν3 0)] trivial fun ac wd hS => ?_
 refine wp_region_lit ?_
 refine hS.opsC 2 [0, 0] [1, 2, 3, 5, 13, 14, 15] fun _ => seg [(20, vb true)] [(0, none), (1, none), (2, none)] [] trivial fun ac wd hS => ?_
 refine hS.opsC 3 [1, 1, 1] [1, 2, 3, 5, 13, 14, 15, 20] fun _ => seg [(21, pt b'1 0), (23, .agg #[vi 8192, vi 0, vu 0, vi 0])] [(0, none), (1, none), (2, none)] [.t true, .t true, .t true] trivial fun ac wd hS => ?_
 refine hS.callG true 28 #[pt b'1 0, .agg #[vi 8192, vi 0, vu 0, vi 0]] (chunk_Write b'1 F4 (bpM (wrcM (comM (AM.new 13) 0 12) 4096 0 0 0) 100 44 4096) 8192 0 0 0 _ (hS.mem.res 0) (by decide)) ?_
 rintro _ wd ⟨F5, rfl, hA, hF⟩
 refine ⟨vi (wrcE (bpM (wrcM (comM (AM.new 13) 0 12) 4096 0 0 0) 100 44 4096) 8192 0 0 0), rfl, ?_⟩
 replace hS := (hS.to (hS.mem.stepA 0 rfl hA hF)).put (d := 24) (v := vi (wrcE (bpM (wrcM (comM (AM.new 13) 0 12) 4096 0 0 0) 100 44 4096) 8192 0 0 0)) (by decide)
 clear hF
 replace hS := hS.fix 24 (vi 0) (show (vi (wrcE (bpM (wrcM (comM (AM.new 13) 0 12) 4096 0 0 0) 100 44 4096) 8192 0 0 0) : Value) = vi 0 from (vint (by decide +kernel)))
 refine hS.opsC 3 [1, 70, 0] [1, 2, 3, 5, 13, 14, 15] fun _ => seg [(27, vb true)] [(0, none), (1, none), (2, none)] [.t true, .t true] trivial fun ac wd hS => ?_
 refine hS.opsC 2 [101, 1] [1, 2, 3, 13, 14, 15, 27] fun _ => seg [(28, .agg #[pt b'1 0, vi 100, vi 44]), (29, vi 8192)] [(0, none), (1, none), (2, none)] [.t true, .t true, .e (ν2 0), .e (ν2 0), .e (ν2 0)] trivial fun ac wd hS => ?_
 refine hS.callG true 29 #[.agg #[pt b'1 0, vi 100, vi 44], vi 8192] (b_Push b'1 F5 (wrcM (bpM (wrcM (comM (AM.new 13) 0 12) 4096 0 0 0) 100 44 4096) 8192 0 0 0) 100 44 8192 _ (hS.mem.res 0) (by decide)) ?_
 rintro _ wd ⟨F6, rfl, hA, hF⟩
 refine ⟨vi (bpE (wrcM (bpM (wrcM (comM (AM.new 13) 0 12) 4096 0 0 0) 100 44 4096) 8192 0 0 0) 100 44 8192), rfl, ?_⟩
 replace hS := (hS.to (hS.mem.stepA 0 rfl hA hF)).put (d := 30) (v := vi (bpE (wrcM (bpM (wrcM (comM (AM.new 13) 0 12) 4096 0 0 0) 100 44 4096) 8192 0 0 0) 100 44 8192)) (by decide)
 clear hF
 replace hS := hS.fix 30 (vi 0) (show (vi (bpE (wrcM (bpM (wrcM (comM (AM.new 13) 0 12) 4096 0 0 0) 100 44 4096) 8192 0 0 0) 100 44 8192) : Value) = vi 0 from (vint (by decide +kernel)))
 refine hS.opsC 3 [1, 70, 0] [1, 2, 13, 14, 15] fun _ => seg [(3, vb true)] [(0, none), (1, none), (2, none)] [.t true, .t true] trivial fun ac wd hS => ?_
 refine list_nil ?_
 refine pop_block ?_
 refine pop_then ?_
 refine hS.regC [0, 0] [1, 2, 3, 13, 14] fun _ => seg [(15, vi 2)] [(0, none), (1, none), (2, none)] [] trivial fun ac wd hS => ?_
 refine pop_then ?_
 refine rounds_in ?_
 refine hS.regS [0] [1, 2, 3, 13, 14, 15] fun _ => seg [(16, vb false)] [(0, none), (1, none), (2, none)] [] trivial fun ac wd hS => ?_
 refine wp_seq ?_
 refine hS.condF ?_
 refine wp_exit ?_
 refine pop_then_exit ?_
 refine pop_then_exit ?_
 refine pop_block_hit ?_
 refine pop_then ?_
 refine wp_region_seq ?_
 refine hS.opsC 1 [100] [3] fun _ => seg [(35, .agg #[pt b'1 0, vi 100, vi 44])] [(0, none)] [.e (ν2 0), .e (ν2 0), .e (ν2 0)] trivial fun ac wd hS => ?_
 refine hS.callC 30 #[.agg #[pt b'1 0, vi 100, vi 44], vi 0] (b_Pop b'1 F6 (bpM (wrcM (bpM (wrcM (comM (AM.new 13) 0 12) 4096 0 0 0) 100 44 4096) 8192 0 0 0) 100 44 8192) 100 44 0 _ (hS.mem.res 0) (by decide)) ?_
 rintro _ wd ⟨F7, rfl, hA, hF⟩
 refine ⟨.tuple #[.agg #[vi (bqAt (bpM (wrcM (bpM (wrcM (comM (AM.new 13) 0 12) 4096 0 0 0) 100 44 4096) 8192 0 0 0) 100 44 8192) 100 44 0), vi (bqOrd (bpM (wrcM (bpM (wrcM (comM (AM.new 13) 0 12) 4096 0 0 0) 100 44 4096) 8192 0 0 0) 100 44 8192) 100 44 0), vu (bqOwn (bpM (wrcM (bpM (wrcM (comM (AM.new 13) 0 12) 4096 0 0 0) 100 44 4096) 8192 0 0 0) 100 44 8192) 100 44 0), vi 0], vb (bqOk (bpM (wrcM (bpM (wrcM (comM (AM.new 13) 0 12) 4096 0 0 0) 100 44 4096) 8192 0 0 0) 100 44 8192) 100 44 0)], rfl, ?_⟩
 replace hS := (hS.to (hS.mem.stepA 0 rfl hA hF)).put (d := 36) (v := .tuple #[.agg #[vi (bqAt (bpM (wrcM (bpM (wrcM (comM (AM.new 13) 0 12) 4096 0 0 0) 100 44 4096) 8192 0 0 0) 100 44 8192) 100 44 0), vi (bqOrd (bpM (wrcM (bpM (wrcM (comM (AM.new 13) 0 12) 4096 0 0 0) 100 44 4096) 8192 0 0 0) 100 44 8192) 100 44 0), vu (bqOwn (bpM (wrcM (bpM (wrcM (comM (AM.new 13) 0 12) 4096 0 0 0) 100 44 4096) 8192 0 0 0) 100 44 8192) 100 44 0), vi 0], vb (bqOk (bpM (wrcM (bpM (wrcM (comM (AM.new 13) 0 12) 4096 0 0 0) 100 44 4096) 8192 0 0 0) 100 44 8192) 100 44 0)]) (by decide)
 clear hF
 replace hS := hS.fix 36 (.tuple #[.agg #[vi 8192, vi (bqOrd (bpM (wrcM (bpM (wrcM (comM (AM.new 13) 0 12) 4096 0 0 0) 100 44 4096) 8192 0 0 0) 100 44 8192) 100 44 0), vu (bqOwn (bpM (wrcM (bpM (wrcM (comM (AM.new 13) 0 12) 4096 0 0 0) 100 44 4096) 8192 0 0 0) 100 44 8192) 100 44 0), vi 0], vb true]) (show (.tuple #[.agg #[vi (bqAt (bpM (wrcM (bpM (wrcM (comM (AM.new 13) 0 12) 4096 0 0 0) 100 44 4096) 8192 0 0 0) 100 44 8192) 100 44 0), vi (bqOrd (bpM (wrcM (bpM (wrcM (comM (AM.new 13) 0 12) 4096 0 0 0) 100 44 4096) 8192 0 0 0) 100 44 8192) 100 44 0), vu (bqOwn (bpM (wrcM (bpM (wrcM (comM (AM.new 13) 0 12) 4096 0 0 0) 100 44 4096) 8192 0 0 0) 100 44 8192) 100 44 0), vi 0], vb (bqOk (bpM (wrcM (bpM (wrcM (comM (AM.new 13) 0 12) 4096 0 0 0) 100 44 4096) 8192 0 0 0) 100 44 8192) 100 44 0)] : Value) = .tuple #[.agg #[vi 8192, vi (bqOrd (bpM (wrcM (bpM (wrcM (comM (AM.new 13) 0 12) 4096 0 0 0) 100 44 4096) 8192 0 0 0) 100 44 8192) 100 44 0), vu (bqOwn (bpM (wrcM (bpM (wrcM (comM (AM.new 13) 0 12) 4096 0 0 0) 100 44 4096) 8192 0 0 0) 100 44 8192) 100 44 0), vi 0], vb true] from (tuple2 (agg4 (vint (by decide +kernel)) rfl rfl rfl) (vbool (by decide +kernel))))
 refine hS.opsC 6 [0, 0, 0, 0, 100, 0] [3] fun ν22 => seg [(6, pt (ν22 0) 0), (7, vb true)] [(0, none), (1, some ((ν22 0), .cells [vi 8192, vi (bqOrd (bpM (wrcM (bpM (wrcM (comM (AM.new 13) 0 12) 4096 0 0 0) 100 44 4096) 8192 0 0 0) 100 44 8192) 100 44 0), vu (bqOwn (bpM (wrcM (bpM (wrcM (comM (AM.new 13) 0 12) 4096 0 0 0) 100 44 4096) 8192 0 0 0) 100 44 8192) 100 44 0), vi 0] 71))] [.e (ν22 0), .e (ν22 0), .e (ν22 0), .e (ν22 0)] trivial fun ac wd hS => ?_
 refine list_nil_seq ?_
 refine wp_region_seq ?_
 refine hS.call0 77 #[] 39 (law10_Awake  _ (hS.mem.get 0 1 (.fn 0 64 dbT)) ) fun ac wd hS => ?_
 refine hS.opsC 12 [0, 1, 70, 0, 1, 70, 0, 1, 101, 1, 70, 0] [] fun _ => seg [(0, vb true)] [(0, none)] [.t true, .t true, .t true, .e (ν22 0), .t true, .t true, .t true, .t true, .t true] trivial fun ac wd hS => ?_
 refine list_nil_seq ?_
 refine wp_ret ?_
 refine St.retC 0 hS (vb true) [] trivial fun hw => ?_
 refine ⟨retd rfl, hw.fr0⟩

end Go.Proofs.YtefffenljiaioaaDoor.K
