/-
  Walks, printed by w2.py.
-/
import Derived.Test.YtghohcgbmceiaaaDoorHd
import Derived.Test.YtghohcgbmceiaaaDoorProg
namespace Go.Proofs.YtghohcgbmceiaaaDoor.K
set_option linter.unusedVariables false
set_option linter.unusedSimpArgs false

set_option maxRecDepth 100000 in
set_option maxHeartbeats 1000000 in
theorem b_Open (b : Nat) (o_ : Int) (z : Int) (w : World) :
    Calls Tryd.prog 85 #[.agg #[pt b 0, vi o_, vi z]] w fun e w' => e = .returned (.agg #[pt b 0, vi o_, vi z]) ∧ Fr w w' no no := by
 refine enter (args := [.agg #[pt b 0, vi o_, vi z]]) (D := no) (A := []) Tryd.func85 rfl 5 rfl [] (WS.startL trivial) fun ac hS => ?_
 refine hS.regS [0, 0] [] fun ν1 => seg [(1, pt (ν1 0) 0), (2, pt (ν1 1) 0)] [(0, some ((ν1 0), .cells [pt b 0, vi o_, vi z] 29)), (1, some ((ν1 1), .cells [pnil, vi 0, vi 0] 125))] [] trivial fun ac wd hS => ?_
 refine hS.regS [0, 0, 100] [2] fun _ => seg [] [(1, some ((ν1 1), .cells [pt b 0, vi o_, vi z] 125))] [.e (ν1 1), .e (ν1 1), .e (ν1 1), .e (ν1 0), .e (ν1 0), .e (ν1 0)] trivial fun ac wd hS => ?_
 refine wp_ret ?_
 refine St.retC 0 hS (.agg #[pt b 0, vi o_, vi z]) [.e (ν1 1), .e (ν1 1), .e (ν1 1)] trivial fun hw => ?_
 refine ⟨retd rfl, hw.fr0⟩

set_option maxRecDepth 100000 in
set_option maxHeartbeats 1000000 in
theorem b_Open_nil (w : World) :
    Calls Tryd.prog 85 #[.agg #[pnil, vi 0, vi 0]] w fun e w' => e = .returned (.agg #[pnil, vi 0, vi 0]) ∧ Fr w w' no no := by
 refine enter (args := [.agg #[pnil, vi 0, vi 0]]) (D := no) (A := []) Tryd.func85 rfl 5 rfl [] (WS.startL trivial) fun ac hS => ?_
 refine hS.regS [0, 0] [] fun ν1 => seg [(1, pt (ν1 0) 0), (2, pt (ν1 1) 0)] [(0, some ((ν1 0), .cells [pnil, vi 0, vi 0] 29)), (1, some ((ν1 1), .cells [pnil, vi 0, vi 0] 125))] [] trivial fun ac wd hS => ?_
 refine hS.regS [0, 0, 100] [2] fun _ => seg [] [(1, none)] [.e (ν1 1), .e (ν1 1), .e (ν1 1), .e (ν1 0), .e (ν1 0), .e (ν1 0)] trivial fun ac wd hS => ?_
 refine wp_ret ?_
 refine St.retC 0 hS (.agg #[pnil, vi 0, vi 0]) [.e (ν1 1), .e (ν1 1), .e (ν1 1)] trivial fun hw => ?_
 refine ⟨retd rfl, hw.fr0⟩

set_option maxRecDepth 100000 in
set_option maxHeartbeats 1000000 in
theorem b_check (b : Nat) (o_ : Int) (z : Int) (w : World) (ho : 0 ≤ o_ ∧ 0 ≤ z ∧ o_ + z ≤ 4294967296) :
    Calls Tryd.prog 141 #[.agg #[pt b 0, vi o_, vi z]] w fun e w' => e = .returned (vi (bnE z)) ∧ Fr w w' no no := by
 refine enter (args := [.agg #[pt b 0, vi o_, vi z]]) (D := no) (A := []) Tryd.func141 rfl 13 rfl [] (WS.startL trivial) fun ac hS => ?_
 refine hS.regS [0, 0] [] fun ν1 => seg [(1, pt (ν1 0) 0)] [(0, some ((ν1 0), .cells [pt b 0, vi o_, vi z] 125))] [] trivial fun ac wd hS => ?_
 refine wp_seq ?_
 refine wp_block ?_
 refine hS.regS [0, 0, 0, 0, 0] [1] fun _ => seg [(3, vb false)] [(0, none)] [.e (ν1 0)] trivial fun ac wd hS => ?_
 refine hS.condF ?_
 refine wp_region_seq ?_
 refine hS.opsC 2 [0, 0] [] fun _ => seg [(10, .agg #[pt b 0, vi o_, vi z])] [] [.e (ν1 0), .e (ν1 0), .e (ν1 0)] trivial fun ac wd hS => ?_
 refine hS.call0 25 #[.agg #[pt b 0, vi o_, vi z]] 11 (vw_Size b o_ z _  ) fun ac wd hS => ?_
 refine hS.opsC 2 [0, 0] [] fun _ => seg [(8, vb (decide ((z : Int) < 40)))] [] [] trivial fun ac wd hS => ?_
 refine list_nil_seq ?_
 refine hS.condC (decide ((z : Int) < 40)) (fun hb1o hb1 => ?_) (fun hb1o hb1 => ?_)
 ·
  refine hS.regS [0] [] fun _ => seg [(2, vi 3)] [] [] trivial fun ac wd hS => ?_
  refine wp_ret ?_
  refine pop_block_ret ?_
  refine pop_then_ret ?_
  refine St.retC 0 hS (vi 3) [] trivial fun hw => ?_
  refine ⟨retd (vint ?_), hw.fr0⟩
  all_goals (first | (unfold bnE; rw [if_pos (by omega)]) | (unfold bnE; rw [if_neg (by omega)]))
 ·
  refine wp_skip ?_
  refine pop_block ?_
  refine pop_then ?_
  refine hS.regS [0] [] fun _ => seg [(2, vi 0)] [] [] trivial fun ac wd hS => ?_
  refine wp_ret ?_
  refine St.retC 0 hS (vi 0) [] trivial fun hw => ?_
  refine ⟨retd (vint ?_), hw.fr0⟩
  all_goals (first | (unfold bnE; rw [if_pos (by omega)]) | (unfold bnE; rw [if_neg (by omega)]))

set_option maxRecDepth 100000 in
set_option maxHeartbeats 1000000 in
theorem b_check_nil (w : World) :
    Calls Tryd.prog 141 #[.agg #[pnil, vi 0, vi 0]] w fun e w' => e = .returned (vi 1) ∧ Fr w w' no no := by
 refine enter (args := [.agg #[pnil, vi 0, vi 0]]) (D := no) (A := []) Tryd.func141 rfl 13 rfl [] (WS.startL trivial) fun ac hS => ?_
 refine hS.regS [0, 0] [] fun ν1 => seg [(1, pt (ν1 0) 0)] [(0, some ((ν1 0), .cells [pnil, vi 0, vi 0] 125))] [] trivial fun ac wd hS => ?_
 refine wp_seq ?_
 refine wp_block ?_
 refine hS.regS [0, 0, 0, 0, 0] [1] fun _ => seg [(3, vb true)] [(0, none)] [.e (ν1 0)] trivial fun ac wd hS => ?_
 refine hS.condT ?_
 refine hS.regS [0] [] fun _ => seg [(2, vi 1)] [] [] trivial fun ac wd hS => ?_
 refine wp_ret ?_
 refine pop_block_ret ?_
 refine pop_then_ret ?_
 refine St.retC 0 hS (vi 1) [] trivial fun hw => ?_
 refine ⟨retd rfl, hw.fr0⟩

set_option maxRecDepth 100000 in
set_option maxHeartbeats 1000000 in
theorem b_newest (b : Nat) (F : Nat → Prop) (m : AM) (o_ : Int) (z : Int) (k : Int) (w : World) (hr : (arR b F m).R w) (ho : 0 ≤ o_ ∧ 0 ≤ z ∧ o_ + z ≤ 4294967296) :
    Calls Tryd.prog 139 #[.agg #[pt b 0, vi o_, vi z], vi k] w fun e w' => e = .returned (vi (bnN m o_ z k)) ∧ Fr w w' no no := by
 refine enter (args := [.agg #[pt b 0, vi o_, vi z], vi k]) (D := no) (A := []) Tryd.func139 rfl 28 rfl [] (WS.startL trivial) fun ac hS => ?_
 refine hS.regS [0, 0] [1] fun ν1 => seg [(2, pt (ν1 0) 0)] [(0, some ((ν1 0), .cells [pt b 0, vi o_, vi z] 125))] [] trivial fun ac wd hS => ?_
 refine wp_seq ?_
 refine wp_region_seq ?_
 refine hS.opsC 7 [0, 0, 0, 3, 3, 80, 0] [1, 2] fun _ => seg [(13, vb ((decide ((k : Int) < 0)) || (decide ((4 : Int) < k))))] [(0, none)] [] trivial fun ac wd hS => ?_
 rcases Bool.eq_false_or_eq_true ((decide ((k : Int) < 0)) || (decide ((4 : Int) < k))) with hg1o | hg1o
 ·
  have hg1 := nrm hg1o
  replace hS := hS.fix 13 (vb true) (congrArg Value.bool hg1o)
  refine hS.opsC 4 [2, 2, 2, 70] [1, 2] fun _ => seg [(17, vb true)] [(0, none)] [.t true, .t true, .t true, .t true] trivial fun ac wd hS => ?_
  refine list_nil_seq ?_
  refine hS.condT ?_
  refine hS.regS [0] [] fun _ => seg [(4, vi 0)] [] [] trivial fun ac wd hS => ?_
  refine wp_ret ?_
  refine pop_then_ret ?_
  refine St.retC 0 hS (vi 0) [] trivial fun hw => ?_
  refine ⟨retd (vint ?_), hw.fr0⟩
  all_goals (first | (unfold bnN; rw [if_pos (by omega)]; done) | (unfold bnN; rw [if_neg (by omega)]; done))
 ·
  have hg1 := nrm hg1o
  replace hS := hS.fix 13 (vb false) (congrArg Value.bool hg1o)
  refine hS.opsC 1 [1] [1, 2, 13] fun _ => seg [(14, .agg #[pt b 0, vi o_, vi z])] [(0, none)] [.t false, .e (ν1 0), .e (ν1 0), .e (ν1 0)] trivial fun ac wd hS => ?_
  refine hS.callG false 141 #[.agg #[pt b 0, vi o_, vi z]] (b_check b o_ z _  (by first | assumption | omega | (simp_all; done) | (simp_all; omega))) ?_
  rintro _ wd ⟨rfl, hF⟩
  refine ⟨vi (bnE z), rfl, ?_⟩
  replace hS := (hS.to (hS.mem.keep0 hF)).put (d := 15) (v := vi (bnE z)) (by decide)
  clear hF
  refine hS.opsC 2 [1, 60] [1, 2] fun _ => seg [(17, vb (((bnE z) : Int) != 0))] [(0, none)] [.t false, .t false] trivial fun ac wd hS => ?_
  refine list_nil_seq ?_
  refine hS.condC (((bnE z) : Int) != 0) (fun hb2o hb2 => ?_) (fun hb2o hb2 => ?_)
  ·
   have hz : z < 40 := by have := hb2; (unfold bnE at this; split at this <;> omega)
   refine hS.regS [0] [] fun _ => seg [(4, vi 0)] [] [] trivial fun ac wd hS => ?_
   refine wp_ret ?_
   refine pop_then_ret ?_
   refine St.retC 0 hS (vi 0) [] trivial fun hw => ?_
   refine ⟨retd (vint ?_), hw.fr0⟩
   all_goals (first | (unfold bnN; rw [if_pos (by omega)]; done) | (unfold bnN; rw [if_neg (by omega)]; done))
  ·
   have hz : ¬ z < 40 := by have := hb2; (unfold bnE at this; split at this <;> omega)
   refine wp_skip ?_
   refine pop_then ?_
   refine wp_region_seq ?_
   refine hS.opsC 4 [0, 0, 0, 20] [] fun _ => seg [(20, .agg #[pt b 0, vi o_, vi z]), (22, vi (8 * k))] [] [.p (fit .i64 (8 * k)), .e (ν1 0), .e (ν1 0), .e (ν1 0)] ⟨fit_i64 (by omega), trivial⟩ fun ac wd hS => ?_
   refine hS.call0 94 #[.agg #[pt b 0, vi o_, vi z], vi (8 * k), vi 8] 23 (vw_Load b F m o_ z (8 * k) 8 _ (Res.keep hr hS.mem.fr) (by first | assumption | omega | (simp_all; done) | (simp_all; omega))) fun ac wd hS => ?_
   refine hS.opsC 5 [0, 0, 0, 0, 0] [] fun _ => seg [(5, vu (vldV m o_ z (8 * k) 8))] [] [] trivial fun ac wd hS => ?_
   refine list_nil_seq ?_
   refine hS.regS [0, 0, 0] [] fun _ => seg [(4, vi (IntKind.wrap .i64 (vldV m o_ z (8 * k) 8)))] [] [] trivial fun ac wd hS => ?_
   refine wp_ret ?_
   refine St.retC 0 hS (vi (IntKind.wrap .i64 (vldV m o_ z (8 * k) 8))) [] trivial fun hw => ?_
   refine ⟨retd (vint ?_), hw.fr0⟩
   all_goals (first | (unfold bnN; rw [if_pos (by omega)]; done) | (unfold bnN; rw [if_neg (by omega)]; done))

set_option maxRecDepth 100000 in
set_option maxHeartbeats 1000000 in
theorem b_newest_nil (k : Int) (w : World) :
    Calls Tryd.prog 139 #[.agg #[pnil, vi 0, vi 0], vi k] w fun e w' => e = .returned (vi 0) ∧ Fr w w' no no := by
 refine enter (args := [.agg #[pnil, vi 0, vi 0], vi k]) (D := no) (A := []) Tryd.func139 rfl 28 rfl [] (WS.startL trivial) fun ac hS => ?_
 refine hS.regS [0, 0] [1] fun ν1 => seg [(2, pt (ν1 0) 0)] [(0, some ((ν1 0), .cells [pnil, vi 0, vi 0] 125))] [] trivial fun ac wd hS => ?_
 refine wp_seq ?_
 refine wp_region_seq ?_
 refine hS.opsC 7 [0, 0, 0, 3, 3, 80, 0] [1, 2] fun _ => seg [(13, vb ((decide ((k : Int) < 0)) || (decide ((4 : Int) < k))))] [(0, none)] [] trivial fun ac wd hS => ?_
 rcases Bool.eq_false_or_eq_true ((decide ((k : Int) < 0)) || (decide ((4 : Int) < k))) with hg1o | hg1o
 ·
  have hg1 := nrm hg1o
  replace hS := hS.fix 13 (vb true) (congrArg Value.bool hg1o)
  refine hS.opsC 4 [2, 2, 2, 70] [1, 2] fun _ => seg [(17, vb true)] [(0, none)] [.t true, .t true, .t true, .t true] trivial fun ac wd hS => ?_
  refine list_nil_seq ?_
  refine hS.condT ?_
  refine hS.regS [0] [] fun _ => seg [(4, vi 0)] [] [] trivial fun ac wd hS => ?_
  refine wp_ret ?_
  refine pop_then_ret ?_
  refine St.retC 0 hS (vi 0) [] trivial fun hw => ?_
  refine ⟨retd rfl, hw.fr0⟩
 ·
  have hg1 := nrm hg1o
  replace hS := hS.fix 13 (vb false) (congrArg Value.bool hg1o)
  refine hS.opsC 1 [1] [1, 2, 13] fun _ => seg [(14, .agg #[pnil, vi 0, vi 0])] [(0, none)] [.t false, .e (ν1 0), .e (ν1 0), .e (ν1 0)] trivial fun ac wd hS => ?_
  refine hS.callG false 141 #[.agg #[pnil, vi 0, vi 0]] (b_check_nil  _  ) ?_
  rintro _ wd ⟨rfl, hF⟩
  refine ⟨vi 1, rfl, ?_⟩
  replace hS := (hS.to (hS.mem.keep0 hF)).put (d := 15) (v := vi 1) (by decide)
  clear hF
  refine hS.opsC 2 [1, 60] [1, 2] fun _ => seg [(17, vb true)] [(0, none)] [.t false, .t false] trivial fun ac wd hS => ?_
  refine list_nil_seq ?_
  refine hS.condT ?_
  refine hS.regS [0] [] fun _ => seg [(4, vi 0)] [] [] trivial fun ac wd hS => ?_
  refine wp_ret ?_
  refine pop_then_ret ?_
  refine St.retC 0 hS (vi 0) [] trivial fun hw => ?_
  refine ⟨retd rfl, hw.fr0⟩

set_option maxRecDepth 100000 in
set_option maxHeartbeats 1000000 in
theorem b_Push (b : Nat) (F : Nat → Prop) (m : AM) (o_ : Int) (z : Int) (a : Int) (w : World) (hr : (arR b F m).R w) (ho : 0 ≤ o_ ∧ 0 ≤ z ∧ o_ + z ≤ 4294967296) :
    Calls Tryd.prog 89 #[.agg #[pt b 0, vi o_, vi z], vi a] w fun e w' => ∃ (F' : Nat → Prop), e = .returned (vi (bpE m o_ z a)) ∧ (arR b F' (bpM m o_ z a)).R w' ∧ Fr w w' F F' := by
 have hr1 := rdOwn_rng m a
 have hr2 := rdNx_rng m a
 have hr3 := rdOrd_rng m a
 have hr4 := bnN_rng m o_ z (rdOrd m a)
 refine enter (args := [.agg #[pt b 0, vi o_, vi z], vi a]) (D := F) (A := [arR b F m]) Tryd.func89 rfl 51 rfl [] (WS.startA (r := arR b F m) hr trivial trivial) fun ac hS => ?_
 refine hS.regS [0, 0] [1] fun ν1 => seg [(2, pt (ν1 0) 0)] [(0, some ((ν1 0), .cells [pt b 0, vi o_, vi z] 125))] [] trivial fun ac wd hS => ?_
 refine wp_seq ?_
 refine wp_region_seq ?_
 refine hS.opsC 1 [0] [1, 2] fun _ => seg [(8, .agg #[pt b 0, vi o_, vi z])] [(0, none)] [.e (ν1 0), .e (ν1 0), .e (ν1 0)] trivial fun ac wd hS => ?_
 refine hS.call0 141 #[.agg #[pt b 0, vi o_, vi z]] 9 (b_check b o_ z _  (by first | assumption | omega | (simp_all; done) | (simp_all; omega))) fun ac wd hS => ?_
 refine hS.opsC 1 [0] [1, 2] fun _ => seg [(5, vi (bnE z))] [(0, none)] [] trivial fun ac wd hS => ?_
 refine list_nil_seq ?_
 refine hS.regS [0, 0] [1, 2, 5] fun _ => seg [(11, vb (((bnE z) : Int) != 0))] [(0, none)] [] trivial fun ac wd hS => ?_
 refine hS.condC (((bnE z) : Int) != 0) (fun hb1o hb1 => ?_) (fun hb1o hb1 => ?_)
 ·
  have hz : z < 40 := by have := hb1; (unfold bnE at this; split at this <;> omega)
  have hE := (bp_1 (m := m) (o := o_) (z := z) (a := a) hz).1
  have hM := (bp_1 (m := m) (o := o_) (z := z) (a := a) hz).2
  refine hS.regS [0, 0] [] fun _ => seg [(4, vi (bnE z))] [] [] trivial fun ac wd hS => ?_
  refine wp_ret ?_
  refine pop_then_ret ?_
  refine St.retC 0 hS (vi (bnE z)) [] trivial fun hw => ?_
  refine ⟨F, retd (vint ?_), (res_eq (r := arR b F m) (by exact congrArg _ hM) (hw.res 0)), hw.frA⟩
  all_goals (first | exact hE | (rw [← hE]; unfold bnE; rw [if_pos hz]))
 ·
  have hz : ¬ z < 40 := by have := hb1; (unfold bnE at this; split at this <;> omega)
  refine wp_skip ?_
  refine pop_then ?_
  refine wp_region_seq ?_
  refine hS.opsC 4 [0, 0, 0, 0] [1, 2] fun _ => seg [(16, pt b 0), (17, vi a)] [(0, none)] [.e (ν1 0)] trivial fun ac wd hS => ?_
  refine hS.call0 51 #[pt b 0, vi a] 18 (chunk_Read b F m a _ (hS.mem.res 0) ) fun ac wd hS => ?_
  refine hS.opsC 6 [0, 0, 0, 0, 100, 0] [1, 2] fun ν7 => seg [(6, pt (ν7 0) 0), (7, vi (rdE m a))] [(0, none), (1, some ((ν7 0), .cells [vi (rdAt m a), vi (rdOrd m a), vu (rdOwn m a), vi (rdNx m a)] 70))] [.e (ν7 0), .e (ν7 0), .e (ν7 0), .e (ν7 0)] trivial fun ac wd hS => ?_
  refine list_nil_seq ?_
  refine wp_seq ?_
  refine wp_block ?_
  refine hS.regS [0, 0, 0] [1, 2, 6, 7] fun _ => seg [(21, vb (((rdE m a) : Int) != 0))] [(0, none), (1, none)] [] trivial fun ac wd hS => ?_
  refine hS.condC (((rdE m a) : Int) != 0) (fun hb2o hb2 => ?_) (fun hb2o hb2 => ?_)
  ·
   have h2 : rdE m a ≠ 0 := hb2
   have hE := (bp_2 (m := m) (o := o_) (z := z) (a := a) hz h2).1
   have hM := (bp_2 (m := m) (o := o_) (z := z) (a := a) hz h2).2
   refine hS.regS [0, 0] [] fun _ => seg [(4, vi (rdE m a))] [] [] trivial fun ac wd hS => ?_
   refine wp_ret ?_
   refine pop_block_ret ?_
   refine pop_then_ret ?_
   refine St.retC 0 hS (vi (rdE m a)) [] trivial fun hw => ?_
   refine ⟨F, retd (vint ?_), (res_eq (r := arR b F m) (by exact congrArg _ hM) (hw.res 0)), hw.frA⟩
   all_goals (first | exact hE | (rw [← hE]; unfold bnE; rw [if_pos hz]))
  ·
   have h2 : ¬ rdE m a ≠ 0 := fun q => q hb2
   refine hS.regS [0, 100, 0, 0] [1, 2, 6] fun _ => seg [(25, vb (decide ((4 : Int) < (rdOrd m a))))] [(0, none), (1, none)] [.e (ν7 0)] trivial fun ac wd hS => ?_
   refine hS.condC (decide ((4 : Int) < (rdOrd m a))) (fun hb3o hb3 => ?_) (fun hb3o hb3 => ?_)
   ·
    have h3 : 4 < rdOrd m a := by have := hb3; omega
    have hE := (bp_3 (m := m) (o := o_) (z := z) (a := a) hz h2 h3).1
    have hM := (bp_3 (m := m) (o := o_) (z := z) (a := a) hz h2 h3).2
    refine hS.regS [0] [] fun _ => seg [(4, vi 2)] [] [] trivial fun ac wd hS => ?_
    refine wp_ret ?_
    refine pop_block_ret ?_
    refine pop_then_ret ?_
    refine St.retC 0 hS (vi 2) [] trivial fun hw => ?_
    refine ⟨F, retd (vint ?_), (res_eq (r := arR b F m) (by exact congrArg _ hM) (hw.res 0)), hw.frA⟩
    all_goals (first | exact hE | (rw [← hE]; unfold bnE; rw [if_pos hz]))
   ·
    have h3 : ¬ 4 < rdOrd m a := by have := hb3; omega
    refine hS.regS [0, 100, 0, 0] [1, 2, 6] fun _ => seg [(29, vb (((rdOwn m a) : Int) != 0))] [(0, none), (1, none)] [.e (ν7 0)] trivial fun ac wd hS => ?_
    refine hS.condC (((rdOwn m a) : Int) != 0) (fun hb4o hb4 => ?_) (fun hb4o hb4 => ?_)
    ·
     have h4 : rdOwn m a ≠ 0 := hb4
     have hE := (bp_4 (m := m) (o := o_) (z := z) (a := a) hz h2 h3 h4).1
     have hM := (bp_4 (m := m) (o := o_) (z := z) (a := a) hz h2 h3 h4).2
     refine hS.regS [0] [] fun _ => seg [(4, vi 11)] [] [] trivial fun ac wd hS => ?_
     refine wp_ret ?_
     refine pop_block_ret ?_
     refine pop_then_ret ?_
     refine St.retC 0 hS (vi 11) [] trivial fun hw => ?_
     refine ⟨F, retd (vint ?_), (res_eq (r := arR b F m) (by exact congrArg _ hM) (hw.res 0)), hw.frA⟩
     all_goals (first | exact hE | (rw [← hE]; unfold bnE; rw [if_pos hz]))
    ·
     have h4 : ¬ rdOwn m a ≠ 0 := fun q => q hb4
     have hE := (bp_5 (m := m) (o := o_) (z := z) (a := a) hz h2 h3 h4).1
     have hM := (bp_5 (m := m) (o := o_) (z := z) (a := a) hz h2 h3 h4).2
     refine wp_skip ?_
     refine pop_block ?_
     refine pop_then ?_
     refine wp_region_seq ?_
     refine hS.opsC 3 [0, 0, 100] [1, 2, 6] fun _ => seg [(33, .agg #[pt b 0, vi o_, vi z]), (35, vi (rdOrd m a))] [(0, none), (1, none)] [.e (ν7 0), .e (ν1 0), .e (ν1 0), .e (ν1 0)] trivial fun ac wd hS => ?_
     refine hS.call0 139 #[.agg #[pt b 0, vi o_, vi z], vi (rdOrd m a)] 36 (b_newest b F m o_ z (rdOrd m a) _ (hS.mem.res 0) (by first | assumption | omega | (simp_all; done) | (simp_all; omega))) fun ac wd hS => ?_
     refine hS.opsC 2 [0, 100] [1, 2, 6] fun _ => seg [] [(0, none), (1, some ((ν7 0), .cells [vi (rdAt m a), vi (rdOrd m a), vu (rdOwn m a), vi (bnN m o_ z (rdOrd m a))] 70))] [.e (ν7 0)] trivial fun ac wd hS => ?_
     refine list_nil_seq ?_
     refine wp_region_seq ?_
     refine hS.opsC 4 [0, 0, 0, 100] [1, 2, 6] fun _ => seg [(40, pt b 0), (41, .agg #[vi (rdAt m a), vi (rdOrd m a), vu (rdOwn m a), vi (bnN m o_ z (rdOrd m a))])] [(0, none), (1, none)] [.e (ν7 0), .e (ν7 0), .e (ν7 0), .e (ν7 0), .e (ν1 0)] trivial fun ac wd hS => ?_
     refine hS.callC 50 #[pt b 0, .agg #[vi (rdAt m a), vi (rdOrd m a), vu (rdOwn m a), vi (bnN m o_ z (rdOrd m a))]] (chunk_Write b F m (rdAt m a) (rdOrd m a) (rdOwn m a) (bnN m o_ z (rdOrd m a)) _ (hS.mem.res 0) (by first | assumption | omega | (simp_all; done) | (simp_all; omega))) ?_
     rintro _ wd ⟨F5, rfl, hA, hF⟩
     refine ⟨vi (wrcE m (rdAt m a) (rdOrd m a) (rdOwn m a) (bnN m o_ z (rdOrd m a))), rfl, ?_⟩
     replace hS := (hS.to (hS.mem.stepA 0 rfl hA hF)).put (d := 42) (v := vi (wrcE m (rdAt m a) (rdOrd m a) (rdOwn m a) (bnN m o_ z (rdOrd m a)))) (by decide)
     clear hF
     refine list_nil_seq ?_
     refine wp_region_seq ?_
     refine hS.opsC 7 [0, 0, 0, 100, 20, 0, 0] [] fun _ => seg [(44, .agg #[pt b 0, vi o_, vi z]), (47, vi (8 * (rdOrd m a))), (49, vu (IntKind.wrap .u64 a))] [] [.p (fit .i64 (8 * (rdOrd m a))), .e (ν7 0), .e (ν1 0), .e (ν1 0), .e (ν1 0)] ⟨fit_i64 (by omega), trivial⟩ fun ac wd hS => ?_
     refine hS.callC 92 #[.agg #[pt b 0, vi o_, vi z], vi (8 * (rdOrd m a)), vi 8, vu (IntKind.wrap .u64 a)] (vw_Store b F5 (wrcM m (rdAt m a) (rdOrd m a) (rdOwn m a) (bnN m o_ z (rdOrd m a))) o_ z (8 * (rdOrd m a)) 8 (IntKind.wrap .u64 a) _ (hS.mem.res 0) (by first | assumption | omega | (simp_all; done) | (simp_all; omega))) ?_
     rintro _ wd ⟨F6, rfl, hA, hF⟩
     refine ⟨vi (vstE (wrcM m (rdAt m a) (rdOrd m a) (rdOwn m a) (bnN m o_ z (rdOrd m a))) o_ z (8 * (rdOrd m a)) 8), rfl, ?_⟩
     replace hS := (hS.to (hS.mem.stepA 0 rfl hA hF)).put (d := 50) (v := vi (vstE (wrcM m (rdAt m a) (rdOrd m a) (rdOwn m a) (bnN m o_ z (rdOrd m a))) o_ z (8 * (rdOrd m a)) 8)) (by decide)
     clear hF
     refine hS.opsC 1 [0] [] fun _ => seg [(4, vi (vstE (wrcM m (rdAt m a) (rdOrd m a) (rdOwn m a) (bnN m o_ z (rdOrd m a))) o_ z (8 * (rdOrd m a)) 8))] [] [] trivial fun ac wd hS => ?_
     refine list_nil_seq ?_
     refine wp_ret ?_
     refine St.retC 0 hS (vi (vstE (wrcM m (rdAt m a) (rdOrd m a) (rdOwn m a) (bnN m o_ z (rdOrd m a))) o_ z (8 * (rdOrd m a)) 8)) [] trivial fun hw => ?_
     refine ⟨F6, retd (vint ?_), (res_eq (r := arR b F6 (vstM (wrcM m (rdAt m a) (rdOrd m a) (rdOwn m a) (bnN m o_ z (rdOrd m a))) o_ z (8 * (rdOrd m a)) 8 (IntKind.wrap .u64 a))) (by exact congrArg _ hM) (hw.res 0)), hw.frA⟩
     all_goals (first | exact hE | (rw [← hE]; unfold bnE; rw [if_pos hz]))

set_option maxRecDepth 100000 in
set_option maxHeartbeats 1000000 in
theorem b_Push_nil (a : Int) (w : World) :
    Calls Tryd.prog 89 #[.agg #[pnil, vi 0, vi 0], vi a] w fun e w' => e = .returned (vi 1) ∧ Fr w w' no no := by
 refine enter (args := [.agg #[pnil, vi 0, vi 0], vi a]) (D := no) (A := []) Tryd.func89 rfl 51 rfl [] (WS.startL trivial) fun ac hS => ?_
 refine hS.regS [0, 0] [1] fun ν1 => seg [(2, pt (ν1 0) 0)] [(0, some ((ν1 0), .cells [pnil, vi 0, vi 0] 125))] [] trivial fun ac wd hS => ?_
 refine wp_seq ?_
 refine wp_region_seq ?_
 refine hS.opsC 1 [0] [1, 2] fun _ => seg [(8, .agg #[pnil, vi 0, vi 0])] [(0, none)] [.e (ν1 0), .e (ν1 0), .e (ν1 0)] trivial fun ac wd hS => ?_
 refine hS.call0 141 #[.agg #[pnil, vi 0, vi 0]] 9 (b_check_nil  _  ) fun ac wd hS => ?_
 refine hS.opsC 1 [0] [1, 2] fun _ => seg [(5, vi 1)] [(0, none)] [] trivial fun ac wd hS => ?_
 refine list_nil_seq ?_
 refine hS.regS [0, 0] [1, 2, 5] fun _ => seg [(11, vb true)] [(0, none)] [] trivial fun ac wd hS => ?_
 refine hS.condT ?_
 refine hS.regS [0, 0] [] fun _ => seg [(4, vi 1)] [] [] trivial fun ac wd hS => ?_
 refine wp_ret ?_
 refine pop_then_ret ?_
 refine St.retC 0 hS (vi 1) [] trivial fun hw => ?_
 refine ⟨retd rfl, hw.fr0⟩

set_option maxRecDepth 100000 in
set_option maxHeartbeats 1000000 in
theorem b_Pop (b : Nat) (F : Nat → Prop) (m : AM) (o_ : Int) (z : Int) (k : Int) (w : World) (hr : (arR b F m).R w) (ho : 0 ≤ o_ ∧ 0 ≤ z ∧ o_ + z ≤ 4294967296) :
    Calls Tryd.prog 86 #[.agg #[pt b 0, vi o_, vi z], vi k] w fun e w' => ∃ (F' : Nat → Prop), e = .returned (.tuple #[.agg #[vi (bqAt m o_ z k), vi (bqOrd m o_ z k), vu (bqOwn m o_ z k), vi 0], vb (bqOk m o_ z k)]) ∧ (arR b F' (bqM m o_ z k)).R w' ∧ Fr w w' F F' := by
 have hr1 := rdOwn_rng m (bnN m o_ z k)
 have hr2 := rdNx_rng m (bnN m o_ z k)
 have hr4 := bnN_rng m o_ z k
 refine enter (args := [.agg #[pt b 0, vi o_, vi z], vi k]) (D := F) (A := [arR b F m]) Tryd.func86 rfl 38 rfl [] (WS.startA (r := arR b F m) hr trivial trivial) fun ac hS => ?_
 refine hS.regS [0, 0, 0] [1] fun ν1 => seg [(2, pt (ν1 0) 0), (4, pt (ν1 1) 0)] [(0, some ((ν1 0), .cells [pt b 0, vi o_, vi z] 125)), (1, some ((ν1 1), .cells [vi 0, vi 0, vu 0, vi 0] 70))] [] trivial fun ac wd hS => ?_
 refine wp_region_seq ?_
 refine hS.opsC 2 [0, 0] [1, 2, 4] fun _ => seg [(9, .agg #[pt b 0, vi o_, vi z]), (10, vi k)] [(0, none), (1, none)] [.e (ν1 0), .e (ν1 0), .e (ν1 0)] trivial fun ac wd hS => ?_
 refine hS.call0 139 #[.agg #[pt b 0, vi o_, vi z], vi k] 11 (b_newest b F m o_ z k _ (hS.mem.res 0) (by first | assumption | omega | (simp_all; done) | (simp_all; omega))) fun ac wd hS => ?_
 refine hS.opsC 1 [0] [1, 2, 4] fun _ => seg [(6, vi (bnN m o_ z k))] [(0, none), (1, none)] [] trivial fun ac wd hS => ?_
 refine list_nil_seq ?_
 refine wp_seq ?_
 refine hS.regS [0, 0] [1, 2, 4, 6] fun _ => seg [(13, vb (((bnN m o_ z k) : Int) == 0))] [(0, none), (1, none)] [] trivial fun ac wd hS => ?_
 refine hS.condC (((bnN m o_ z k) : Int) == 0) (fun hb1o hb1 => ?_) (fun hb1o hb1 => ?_)
 ·
  have hb0 : bnN m o_ z k = 0 := hb1
  have hq := bq_no hb0
  refine hS.regS [0, 100, 0] [4] fun _ => seg [(5, vb false)] [(1, none)] [.e (ν1 1), .e (ν1 1), .e (ν1 1), .e (ν1 1)] trivial fun ac wd hS => ?_
  refine wp_ret ?_
  refine pop_then_ret ?_
  refine St.retC 0 hS (.tuple #[.agg #[vi 0, vi 0, vu 0, vi 0], vb false]) [.e (ν1 1), .e (ν1 1), .e (ν1 1), .e (ν1 1)] trivial fun hw => ?_
  refine ⟨F, retd (tuple2 (agg4 (vint ?_) (vint ?_) (vint ?_) rfl) (vbool ?_)), (res_eq (r := arR b F m) (by exact congrArg _ hq.2) (hw.res 0)), hw.frA⟩
  all_goals (first | exact hq.1.1 | exact hq.1.2.1 | exact hq.1.2.2.1 | exact hq.1.2.2.2)
 ·
  have hb0 : bnN m o_ z k ≠ 0 := hb1
  obtain ⟨hk1, hk2, hk3⟩ := bnN_in hb0
  have hq := bq_yes hb0
  refine wp_skip ?_
  refine pop_then ?_
  refine wp_region_seq ?_
  refine hS.opsC 4 [0, 0, 0, 0] [1, 2, 4] fun _ => seg [(18, pt b 0), (19, vi (bnN m o_ z k))] [(0, none), (1, none)] [.e (ν1 0)] trivial fun ac wd hS => ?_
  refine hS.call0 51 #[pt b 0, vi (bnN m o_ z k)] 20 (chunk_Read b F m (bnN m o_ z k) _ (hS.mem.res 0) ) fun ac wd hS => ?_
  refine hS.opsC 6 [0, 0, 0, 0, 200, 0] [1, 2, 4] fun ν7 => seg [(7, pt (ν7 0) 0)] [(0, none), (1, none), (2, some ((ν7 0), .cells [vi (rdAt m (bnN m o_ z k)), vi (rdOrd m (bnN m o_ z k)), vu (rdOwn m (bnN m o_ z k)), vi (rdNx m (bnN m o_ z k))] 70))] [.e (ν7 0), .e (ν7 0), .e (ν7 0), .e (ν7 0)] trivial fun ac wd hS => ?_
  refine list_nil_seq ?_
  refine wp_region_seq ?_
  refine hS.opsC 7 [0, 0, 0, 20, 0, 200, 0] [2, 4, 7] fun _ => seg [(24, .agg #[pt b 0, vi o_, vi z]), (26, vi (8 * k)), (29, vu (IntKind.wrap .u64 (rdNx m (bnN m o_ z k))))] [(0, none), (1, none), (2, none)] [.e (ν7 0), .p (fit .i64 (8 * k)), .e (ν1 0), .e (ν1 0), .e (ν1 0)] ⟨fit_i64 (by omega), trivial⟩ fun ac wd hS => ?_
  refine hS.callC 92 #[.agg #[pt b 0, vi o_, vi z], vi (8 * k), vi 8, vu (IntKind.wrap .u64 (rdNx m (bnN m o_ z k)))] (vw_Store b F m o_ z (8 * k) 8 (IntKind.wrap .u64 (rdNx m (bnN m o_ z k))) _ (hS.mem.res 0) (by first | assumption | omega | (simp_all; done) | (simp_all; omega))) ?_
  rintro _ wd ⟨F2, rfl, hA, hF⟩
  refine ⟨vi (vstE m o_ z (8 * k) 8), rfl, ?_⟩
  replace hS := (hS.to (hS.mem.stepA 0 rfl hA hF)).put (d := 30) (v := vi (vstE m o_ z (8 * k) 8)) (by decide)
  clear hF
  refine list_nil_seq ?_
  refine hS.regS [0, 200] [2, 4, 7] fun _ => seg [] [(0, none), (1, none), (2, some ((ν7 0), .cells [vi (rdAt m (bnN m o_ z k)), vi (rdOrd m (bnN m o_ z k)), vu (rdOwn m (bnN m o_ z k)), vi 0] 70))] [.e (ν7 0)] trivial fun ac wd hS => ?_
  refine wp_region_seq ?_
  refine hS.opsC 4 [0, 0, 0, 200] [4, 7] fun _ => seg [(34, pt b 0), (35, .agg #[vi (rdAt m (bnN m o_ z k)), vi (rdOrd m (bnN m o_ z k)), vu (rdOwn m (bnN m o_ z k)), vi 0])] [(1, none), (2, none)] [.e (ν7 0), .e (ν7 0), .e (ν7 0), .e (ν7 0), .e (ν1 0)] trivial fun ac wd hS => ?_
  refine hS.callC 50 #[pt b 0, .agg #[vi (rdAt m (bnN m o_ z k)), vi (rdOrd m (bnN m o_ z k)), vu (rdOwn m (bnN m o_ z k)), vi 0]] (chunk_Write b F2 (vstM m o_ z (8 * k) 8 (IntKind.wrap .u64 (rdNx m (bnN m o_ z k)))) (rdAt m (bnN m o_ z k)) (rdOrd m (bnN m o_ z k)) (rdOwn m (bnN m o_ z k)) 0 _ (hS.mem.res 0) (by first | assumption | omega | (simp_all; done) | (simp_all; omega))) ?_
  rintro _ wd ⟨F3, rfl, hA, hF⟩
  refine ⟨vi (wrcE (vstM m o_ z (8 * k) 8 (IntKind.wrap .u64 (rdNx m (bnN m o_ z k)))) (rdAt m (bnN m o_ z k)) (rdOrd m (bnN m o_ z k)) (rdOwn m (bnN m o_ z k)) 0), rfl, ?_⟩
  replace hS := (hS.to (hS.mem.stepA 0 rfl hA hF)).put (d := 36) (v := vi (wrcE (vstM m o_ z (8 * k) 8 (IntKind.wrap .u64 (rdNx m (bnN m o_ z k)))) (rdAt m (bnN m o_ z k)) (rdOrd m (bnN m o_ z k)) (rdOwn m (bnN m o_ z k)) 0)) (by decide)
  clear hF
  refine list_nil_seq ?_
  refine hS.regS [100, 0, 0] [4] fun _ => seg [(5, vb true)] [(0, some ((ν1 1), .cells [vi (rdAt m (bnN m o_ z k)), vi (rdOrd m (bnN m o_ z k)), vu (rdOwn m (bnN m o_ z k)), vi 0] 70))] [.e (ν1 1), .e (ν1 1), .e (ν1 1), .e (ν1 1), .e (ν7 0), .e (ν7 0), .e (ν7 0), .e (ν7 0)] trivial fun ac wd hS => ?_
  refine wp_ret ?_
  refine St.retC 0 hS (.tuple #[.agg #[vi (rdAt m (bnN m o_ z k)), vi (rdOrd m (bnN m o_ z k)), vu (rdOwn m (bnN m o_ z k)), vi 0], vb true]) [.e (ν1 1), .e (ν1 1), .e (ν1 1), .e (ν1 1)] trivial fun hw => ?_
  refine ⟨F3, retd (tuple2 (agg4 (vint ?_) (vint ?_) (vint ?_) rfl) (vbool ?_)), (res_eq (r := arR b F3 (wrcM (vstM m o_ z (8 * k) 8 (IntKind.wrap .u64 (rdNx m (bnN m o_ z k)))) (rdAt m (bnN m o_ z k)) (rdOrd m (bnN m o_ z k)) (rdOwn m (bnN m o_ z k)) 0)) (by exact congrArg _ hq.2) (hw.res 0)), hw.frA⟩
  all_goals (first | exact hq.1.1 | exact hq.1.2.1 | exact hq.1.2.2.1 | exact hq.1.2.2.2)

set_option maxRecDepth 100000 in
set_option maxHeartbeats 1000000 in
theorem b_Pop_nil (k : Int) (w : World) :
    Calls Tryd.prog 86 #[.agg #[pnil, vi 0, vi 0], vi k] w fun e w' => e = .returned (.tuple #[.agg #[vi 0, vi 0, vu 0, vi 0], vb false]) ∧ Fr w w' no no := by
 refine enter (args := [.agg #[pnil, vi 0, vi 0], vi k]) (D := no) (A := []) Tryd.func86 rfl 38 rfl [] (WS.startL trivial) fun ac hS => ?_
 refine hS.regS [0, 0, 0] [1] fun ν1 => seg [(2, pt (ν1 0) 0), (4, pt (ν1 1) 0)] [(0, some ((ν1 0), .cells [pnil, vi 0, vi 0] 125)), (1, some ((ν1 1), .cells [vi 0, vi 0, vu 0, vi 0] 70))] [] trivial fun ac wd hS => ?_
 refine wp_region_seq ?_
 refine hS.opsC 2 [0, 0] [1, 2, 4] fun _ => seg [(9, .agg #[pnil, vi 0, vi 0]), (10, vi k)] [(0, none), (1, none)] [.e (ν1 0), .e (ν1 0), .e (ν1 0)] trivial fun ac wd hS => ?_
 refine hS.call0 139 #[.agg #[pnil, vi 0, vi 0], vi k] 11 (b_newest_nil k _  ) fun ac wd hS => ?_
 refine hS.opsC 1 [0] [1, 2, 4] fun _ => seg [(6, vi 0)] [(0, none), (1, none)] [] trivial fun ac wd hS => ?_
 refine list_nil_seq ?_
 refine wp_seq ?_
 refine hS.regS [0, 0] [1, 2, 4, 6] fun _ => seg [(13, vb true)] [(0, none), (1, none)] [] trivial fun ac wd hS => ?_
 refine hS.condT ?_
 refine hS.regS [0, 100, 0] [4] fun _ => seg [(5, vb false)] [(1, none)] [.e (ν1 1), .e (ν1 1), .e (ν1 1), .e (ν1 1)] trivial fun ac wd hS => ?_
 refine wp_ret ?_
 refine pop_then_ret ?_
 refine St.retC 0 hS (.tuple #[.agg #[vi 0, vi 0, vu 0, vi 0], vb false]) [.e (ν1 1), .e (ν1 1), .e (ν1 1), .e (ν1 1)] trivial fun hw => ?_
 refine ⟨retd rfl, hw.fr0⟩

set_option maxRecDepth 100000 in
set_option maxHeartbeats 1000000 in
theorem b_Least_small (b : Nat) (F : Nat → Prop) (m : AM) (o_ : Int) (z : Int) (w : World) (hr : (arR b F m).R w) (ho : 0 ≤ o_ ∧ 0 ≤ z ∧ o_ + z ≤ 4294967296) (hz : z < 40) :
    Calls Tryd.prog 87 #[.agg #[pt b 0, vi o_, vi z], vi 0] w fun e w' => e = .returned (.tuple #[vi 0, vb false]) ∧ Fr w w' no no := by
 refine enter (args := [.agg #[pt b 0, vi o_, vi z], vi 0]) (D := no) (A := []) Tryd.func87 rfl 18 rfl [] (WS.startL trivial) fun ac hS => ?_
 refine hS.regS [0, 0, 0] [1] fun ν1 => seg [(2, pt (ν1 0) 0)] [(0, some ((ν1 0), .cells [pt b 0, vi o_, vi z] 125))] [] trivial fun ac wd hS => ?_
 refine wp_seq ?_
 refine hS.regS [0, 0, 0] [2] fun _ => seg [(6, vi 0)] [(0, none)] [] trivial fun ac wd hS => ?_
 refine wp_block ?_
 refine St.loopC (σ := Int) (fun (x6 : Int) => ⟨[(2, [], pt (ν1 0) 0), (6, [], vi x6)], [((ν1 0), .cells [pt b 0, vi o_, vi z] 125)], [], (0 ≤ x6 ∧ x6 ≤ 5) ∧ True, 5 - Int.toNat x6⟩) 0 ⟨(by omega), trivial⟩ hS ?_
 clear hS
 rintro x6 ⟨i0, -⟩ ac wd hS
 replace i0 : 0 ≤ x6 ∧ x6 ≤ 5 := i0
 refine wp_seq ?_
 refine hS.regS [0, 0] [2, 6] fun _ => seg [(10, vb (decide ((x6 : Int) ≤ 4)))] [(0, none)] [] trivial fun ac wd hS => ?_
 refine hS.condC (decide ((x6 : Int) ≤ 4)) (fun hb1o hb1 => ?_) (fun hb1o hb1 => ?_)
 ·
  refine wp_skip ?_
  refine pop_then ?_
  refine wp_seq ?_
  refine wp_block ?_
  refine wp_region_seq ?_
  refine hS.opsC 2 [0, 0] [2, 6] fun _ => seg [(13, .agg #[pt b 0, vi o_, vi z]), (14, vi x6)] [(0, none)] [.e (ν1 0), .e (ν1 0), .e (ν1 0)] trivial fun ac wd hS => ?_
  refine hS.call0 139 #[.agg #[pt b 0, vi o_, vi z], vi x6] 15 (b_newest b F m o_ z x6 _ (Res.keep hr hS.mem.fr) (by first | assumption | omega | (simp_all; done) | (simp_all; omega))) fun ac wd hS => ?_
  refine hS.opsC 1 [0] [2, 6] fun _ => seg [(16, vb (((bnN m o_ z x6) : Int) != 0))] [(0, none)] [] trivial fun ac wd hS => ?_
  refine list_nil_seq ?_
  refine hS.condK (((bnN m o_ z x6) : Int) != 0) false (by rw [bnN_small hz]; rfl) ?_
  show Code.wp _ _ _ _ _
  refine wp_skip ?_
  refine pop_block ?_
  refine pop_then ?_
  refine hS.regC [0, 20, 0] [2] fun _ => seg [(6, vi (x6 + 1))] [(0, none)] [.p (fit .i64 (x6 + 1))] ⟨fit_i64 (by omega), trivial⟩ fun ac wd hS => ?_
  exact pop_then (hS.next (x6 + 1) ⟨(by first | omega | assumption | (simp; done) | (simp; omega)), trivial⟩ (by dsimp only; omega))
 ·
  refine wp_exit ?_
  refine pop_then_exit ?_
  refine pop_then_exit ?_
  refine pop_block_hit ?_
  refine pop_then ?_
  refine hS.regS [0, 0] [] fun _ => seg [(4, vi 0), (5, vb false)] [] [] trivial fun ac wd hS => ?_
  refine wp_ret ?_
  refine St.retC 0 hS (.tuple #[vi 0, vb false]) [] trivial fun hw => ?_
  refine ⟨retd rfl, hw.fr0⟩

set_option maxRecDepth 100000 in
set_option maxHeartbeats 1000000 in
theorem b_All_small (b : Nat) (F : Nat → Prop) (m : AM) (o_ : Int) (z : Int) (k : Int) (w : World) (hr : (arR b F m).R w) (ho : 0 ≤ o_ ∧ 0 ≤ z ∧ o_ + z ≤ 4294967296) (hz : z < 40) :
    Calls Tryd.prog 90 #[.agg #[pt b 0, vi o_, vi z], vi k] w fun e w' => e = .returned (vnil) ∧ Fr w w' no no := by
 refine enter (args := [.agg #[pt b 0, vi o_, vi z], vi k]) (D := no) (A := []) Tryd.func90 rfl 29 rfl [] (WS.startL trivial) fun ac hS => ?_
 refine hS.regS [0, 0] [1] fun ν1 => seg [(2, pt (ν1 0) 0)] [(0, some ((ν1 0), .cells [pt b 0, vi o_, vi z] 125))] [] trivial fun ac wd hS => ?_
 refine hS.regS [0] [1, 2] fun _ => seg [(5, vnil)] [(0, none)] [] trivial fun ac wd hS => ?_
 refine wp_seq ?_
 refine wp_region_seq ?_
 refine hS.opsC 2 [0, 0] [2, 5] fun _ => seg [(9, .agg #[pt b 0, vi o_, vi z]), (10, vi k)] [(0, none)] [.e (ν1 0), .e (ν1 0), .e (ν1 0)] trivial fun ac wd hS => ?_
 refine hS.call0 139 #[.agg #[pt b 0, vi o_, vi z], vi k] 11 (b_newest b F m o_ z k _ (Res.keep hr hS.mem.fr) (by first | assumption | omega | (simp_all; done) | (simp_all; omega))) fun ac wd hS => ?_
 refine hS.opsC 1 [0] [2, 5] fun _ => seg [(6, vi (bnN m o_ z k))] [(0, none)] [] trivial fun ac wd hS => ?_
 refine list_nil_seq ?_
 refine wp_block ?_
 refine St.loopC (σ := Int) (fun (x6 : Int) => ⟨[(2, [], pt (ν1 0) 0), (5, [], vnil), (6, [], vi x6)], [((ν1 0), .cells [pt b 0, vi o_, vi z] 125)], [], (x6 = 0) ∧ True, 0⟩) (bnN m o_ z k) ⟨(by first | exact bnN_small hz | rfl), trivial⟩ hS ?_
 clear hS
 rintro x6 ⟨i0, -⟩ ac wd hS
 replace i0 : x6 = 0 := i0
 refine wp_seq ?_
 refine hS.regS [0, 0] [2, 5, 6] fun _ => seg [(13, vb ((x6 : Int) != 0))] [(0, none)] [] trivial fun ac wd hS => ?_
 refine hS.condK ((x6 : Int) != 0) false (by rw [i0]; rfl) ?_
 show Code.wp _ _ _ _ _
 refine wp_exit ?_
 refine pop_then_exit ?_
 refine pop_then_exit ?_
 refine pop_block_hit ?_
 refine pop_then ?_
 refine hS.regS [0, 0] [] fun _ => seg [(4, vnil)] [] [] trivial fun ac wd hS => ?_
 refine wp_ret ?_
 refine St.retC 0 hS (vnil) [] trivial fun hw => ?_
 refine ⟨retd rfl, hw.fr0⟩

set_option maxRecDepth 100000 in
set_option maxHeartbeats 1000000 in
theorem b_All_nil (k : Int) (w : World) :
    Calls Tryd.prog 90 #[.agg #[pnil, vi 0, vi 0], vi k] w fun e w' => e = .returned (vnil) ∧ Fr w w' no no := by
 refine enter (args := [.agg #[pnil, vi 0, vi 0], vi k]) (D := no) (A := []) Tryd.func90 rfl 29 rfl [] (WS.startL trivial) fun ac hS => ?_
 refine hS.regS [0, 0] [1] fun ν1 => seg [(2, pt (ν1 0) 0)] [(0, some ((ν1 0), .cells [pnil, vi 0, vi 0] 125))] [] trivial fun ac wd hS => ?_
 refine hS.regS [0] [1, 2] fun _ => seg [(5, vnil)] [(0, none)] [] trivial fun ac wd hS => ?_
 refine wp_seq ?_
 refine wp_region_seq ?_
 refine hS.opsC 2 [0, 0] [2, 5] fun _ => seg [(9, .agg #[pnil, vi 0, vi 0]), (10, vi k)] [(0, none)] [.e (ν1 0), .e (ν1 0), .e (ν1 0)] trivial fun ac wd hS => ?_
 refine hS.call0 139 #[.agg #[pnil, vi 0, vi 0], vi k] 11 (b_newest_nil k _  ) fun ac wd hS => ?_
 refine hS.opsC 1 [0] [2, 5] fun _ => seg [(6, vi 0)] [(0, none)] [] trivial fun ac wd hS => ?_
 refine list_nil_seq ?_
 refine wp_block ?_
 refine St.loopC (σ := Int) (fun (x6 : Int) => ⟨[(2, [], pt (ν1 0) 0), (5, [], vnil), (6, [], vi x6)], [((ν1 0), .cells [pnil, vi 0, vi 0] 125)], [], (x6 = 0) ∧ True, 0⟩) 0 ⟨(by first | exact bnN_small hz | rfl), trivial⟩ hS ?_
 clear hS
 rintro x6 ⟨i0, -⟩ ac wd hS
 replace i0 : x6 = 0 := i0
 refine wp_seq ?_
 refine hS.regS [0, 0] [2, 5, 6] fun _ => seg [(13, vb ((x6 : Int) != 0))] [(0, none)] [] trivial fun ac wd hS => ?_
 refine hS.condK ((x6 : Int) != 0) false (by rw [i0]; rfl) ?_
 show Code.wp _ _ _ _ _
 refine wp_exit ?_
 refine pop_then_exit ?_
 refine pop_then_exit ?_
 refine pop_block_hit ?_
 refine pop_then ?_
 refine hS.regS [0, 0] [] fun _ => seg [(4, vnil)] [] [] trivial fun ac wd hS => ?_
 refine wp_ret ?_
 refine St.retC 0 hS (vnil) [] trivial fun hw => ?_
 refine ⟨retd rfl, hw.fr0⟩

set_option maxRecDepth 100000 in
set_option maxHeartbeats 1000000 in
theorem b_Count_small (b : Nat) (F : Nat → Prop) (m : AM) (o_ : Int) (z : Int) (w : World) (hr : (arR b F m).R w) (ho : 0 ≤ o_ ∧ 0 ≤ z ∧ o_ + z ≤ 4294967296) (hz : z < 40) :
    Calls Tryd.prog 91 #[.agg #[pt b 0, vi o_, vi z]] w fun e w' => e = .returned (vi 0) ∧ Fr w w' no no := by
 refine enter (args := [.agg #[pt b 0, vi o_, vi z]]) (D := no) (A := []) Tryd.func91 rfl 18 rfl [] (WS.startL trivial) fun ac hS => ?_
 refine hS.regS [0, 0] [] fun ν1 => seg [(1, pt (ν1 0) 0)] [(0, some ((ν1 0), .cells [pt b 0, vi o_, vi z] 125))] [] trivial fun ac wd hS => ?_
 refine hS.regS [0] [1] fun _ => seg [(3, vi 0)] [(0, none)] [] trivial fun ac wd hS => ?_
 refine wp_seq ?_
 refine hS.regS [0] [1, 3] fun _ => seg [(5, vi 0)] [(0, none)] [] trivial fun ac wd hS => ?_
 refine wp_block ?_
 refine St.loopC (σ := Int × Int) (fun (x : Int × Int) => match x with | (x3, x5) => ⟨[(1, [], pt (ν1 0) 0), (3, [], vi x3), (5, [], vi x5)], [((ν1 0), .cells [pt b 0, vi o_, vi z] 125)], [], (0 ≤ x5 ∧ x5 ≤ 5) ∧ (x3 = 0) ∧ True, 5 - Int.toNat x5⟩) (0, 0) ⟨(by first | omega | rfl), (by first | omega | rfl), trivial⟩ hS ?_
 clear hS
 rintro ⟨x3, x5⟩ ⟨i0, i1, -⟩ ac wd hS
 replace i0 : 0 ≤ x5 ∧ x5 ≤ 5 := i0
 replace i1 : x3 = 0 := i1
 refine hS.regS [0] [1, 3, 5] fun _ => seg [(6, vb (decide ((x5 : Int) < 5)))] [(0, none)] [] trivial fun ac wd hS => ?_
 refine wp_seq ?_
 refine hS.condC (decide ((x5 : Int) < 5)) (fun hb1o hb1 => ?_) (fun hb1o hb1 => ?_)
 ·
  refine wp_skip ?_
  refine pop_then ?_
  refine wp_seq ?_
  refine wp_block ?_
  refine hS.regS [0, 0] [1, 3, 5] fun _ => seg [(4, vi x5)] [(0, none)] [] trivial fun ac wd hS => ?_
  refine wp_region_lit ?_
  refine hS.opsC 3 [0, 0, 0] [1, 3, 4, 5] fun _ => seg [(8, vi x3), (9, .agg #[pt b 0, vi o_, vi z]), (10, vi x5)] [(0, none)] [.e (ν1 0), .e (ν1 0), .e (ν1 0)] trivial fun ac wd hS => ?_
  refine hS.call0 90 #[.agg #[pt b 0, vi o_, vi z], vi x5] 11 (b_All_small b F m o_ z x5 _ (Res.keep hr hS.mem.fr) (by first | assumption | omega | (simp_all; done) | (simp_all; omega)) (by first | assumption | omega | (simp_all; done) | (simp_all; omega))) fun ac wd hS => ?_
  refine hS.opsC 5 [0, 0, 20, 20, 0] [1, 5] fun _ => seg [(3, vi (x3 + (0 * (2 ^ Int.toNat x5))))] [(0, none)] [.p (fit .i64 (x3 + (0 * (2 ^ Int.toNat x5)))), .p (0 ≤ x5 ∧ IntKind.i64.wrap (0 * 2 ^ (min (Int.toNat x5) 64)) = (0 * (2 ^ Int.toNat x5)))] ⟨fit_i64 (by first | omega | (rw [Int.zero_mul]; omega)), shl2_i64 (by omega) (by omega) (by first | omega | (rw [Int.zero_mul]; omega)), trivial⟩ fun ac wd hS => ?_
  refine list_nil ?_
  refine pop_block ?_
  refine pop_then ?_
  refine hS.regC [20, 0] [1, 3] fun _ => seg [(5, vi (x5 + 1))] [(0, none)] [.p (fit .i64 (x5 + 1))] ⟨fit_i64 (by first | omega | (rw [Int.zero_mul]; omega)), trivial⟩ fun ac wd hS => ?_
  exact pop_then (hS.next ((x3 + (0 * (2 ^ Int.toNat x5))), (x5 + 1)) ⟨(by first | omega | assumption | (simp; done) | (simp; omega)), (by rw [i1]; simp), trivial⟩ (by dsimp only; omega))
 ·
  refine wp_exit ?_
  refine pop_then_exit ?_
  refine pop_then_exit ?_
  refine pop_block_hit ?_
  refine pop_then ?_
  refine hS.regS [0, 0] [] fun _ => seg [(2, vi x3)] [] [] trivial fun ac wd hS => ?_
  refine wp_ret ?_
  refine St.retC 0 hS (vi x3) [] trivial fun hw => ?_
  refine ⟨retd (vint ?_), hw.fr0⟩
  all_goals (exact i1)

set_option maxRecDepth 100000 in
set_option maxHeartbeats 1000000 in
theorem b_Count_nil (w : World) :
    Calls Tryd.prog 91 #[.agg #[pnil, vi 0, vi 0]] w fun e w' => e = .returned (vi 0) ∧ Fr w w' no no := by
 refine enter (args := [.agg #[pnil, vi 0, vi 0]]) (D := no) (A := []) Tryd.func91 rfl 18 rfl [] (WS.startL trivial) fun ac hS => ?_
 refine hS.regS [0, 0] [] fun ν1 => seg [(1, pt (ν1 0) 0)] [(0, some ((ν1 0), .cells [pnil, vi 0, vi 0] 125))] [] trivial fun ac wd hS => ?_
 refine hS.regS [0] [1] fun _ => seg [(3, vi 0)] [(0, none)] [] trivial fun ac wd hS => ?_
 refine wp_seq ?_
 refine hS.regS [0] [1, 3] fun _ => seg [(5, vi 0)] [(0, none)] [] trivial fun ac wd hS => ?_
 refine wp_block ?_
 refine St.loopC (σ := Int × Int) (fun (x : Int × Int) => match x with | (x3, x5) => ⟨[(1, [], pt (ν1 0) 0), (3, [], vi x3), (5, [], vi x5)], [((ν1 0), .cells [pnil, vi 0, vi 0] 125)], [], (0 ≤ x5 ∧ x5 ≤ 5) ∧ (x3 = 0) ∧ True, 5 - Int.toNat x5⟩) (0, 0) ⟨(by first | omega | rfl), (by first | omega | rfl), trivial⟩ hS ?_
 clear hS
 rintro ⟨x3, x5⟩ ⟨i0, i1, -⟩ ac wd hS
 replace i0 : 0 ≤ x5 ∧ x5 ≤ 5 := i0
 replace i1 : x3 = 0 := i1
 refine hS.regS [0] [1, 3, 5] fun _ => seg [(6, vb (decide ((x5 : Int) < 5)))] [(0, none)] [] trivial fun ac wd hS => ?_
 refine wp_seq ?_
 refine hS.condC (decide ((x5 : Int) < 5)) (fun hb1o hb1 => ?_) (fun hb1o hb1 => ?_)
 ·
  refine wp_skip ?_
  refine pop_then ?_
  refine wp_seq ?_
  refine wp_block ?_
  refine hS.regS [0, 0] [1, 3, 5] fun _ => seg [(4, vi x5)] [(0, none)] [] trivial fun ac wd hS => ?_
  refine wp_region_lit ?_
  refine hS.opsC 3 [0, 0, 0] [1, 3, 4, 5] fun _ => seg [(8, vi x3), (9, .agg #[pnil, vi 0, vi 0]), (10, vi x5)] [(0, none)] [.e (ν1 0), .e (ν1 0), .e (ν1 0)] trivial fun ac wd hS => ?_
  refine hS.call0 90 #[.agg #[pnil, vi 0, vi 0], vi x5] 11 (b_All_nil x5 _  ) fun ac wd hS => ?_
  refine hS.opsC 5 [0, 0, 20, 20, 0] [1, 5] fun _ => seg [(3, vi (x3 + (0 * (2 ^ Int.toNat x5))))] [(0, none)] [.p (fit .i64 (x3 + (0 * (2 ^ Int.toNat x5)))), .p (0 ≤ x5 ∧ IntKind.i64.wrap (0 * 2 ^ (min (Int.toNat x5) 64)) = (0 * (2 ^ Int.toNat x5)))] ⟨fit_i64 (by first | omega | (rw [Int.zero_mul]; omega)), shl2_i64 (by omega) (by omega) (by first | omega | (rw [Int.zero_mul]; omega)), trivial⟩ fun ac wd hS => ?_
  refine list_nil ?_
  refine pop_block ?_
  refine pop_then ?_
  refine hS.regC [20, 0] [1, 3] fun _ => seg [(5, vi (x5 + 1))] [(0, none)] [.p (fit .i64 (x5 + 1))] ⟨fit_i64 (by first | omega | (rw [Int.zero_mul]; omega)), trivial⟩ fun ac wd hS => ?_
  exact pop_then (hS.next ((x3 + (0 * (2 ^ Int.toNat x5))), (x5 + 1)) ⟨(by first | omega | assumption | (simp; done) | (simp; omega)), (by rw [i1]; simp), trivial⟩ (by dsimp only; omega))
 ·
  refine wp_exit ?_
  refine pop_then_exit ?_
  refine pop_then_exit ?_
  refine pop_block_hit ?_
  refine pop_then ?_
  refine hS.regS [0, 0] [] fun _ => seg [(2, vi x3)] [] [] trivial fun ac wd hS => ?_
  refine wp_ret ?_
  refine St.retC 0 hS (vi x3) [] trivial fun hw => ?_
  refine ⟨retd (vint ?_), hw.fr0⟩
  all_goals (exact i1)

set_option maxRecDepth 100000 in
set_option maxHeartbeats 1000000 in
theorem law11_open (w : World) :
    Calls Tryd.prog 140 #[] w fun e w' => ∃ (b' : Nat) (F' : Nat → Prop), e = .returned (.tuple #[pt b' 0, .agg #[pt b' 0, vi 100, vi 44], vb true]) ∧ (arR b' F' (comM (AM.new 13) 0 12)).R w' ∧ Fr w w' no F' := by
 refine enter (args := []) (D := no) (A := []) Tryd.func140 rfl 24 rfl [] (WS.startL trivial) fun ac hS => ?_
 refine hS.regS [0, 0, 0] [] fun ν1 => seg [(1, pt (ν1 0) 0)] [(0, some ((ν1 0), .cells [pnil, vi 0, vi 0] 125))] [] trivial fun ac wd hS => ?_
 refine wp_region_seq ?_
 refine hS.callC 16 #[vi 13] (ar_New 13 _  ) ?_
 rintro _ wd ⟨b'1, F2, rfl, hN, hF⟩
 refine ⟨pt b'1 0, rfl, ?_⟩
 replace hS := (hS.to (hS.mem.newA hN hF)).put (d := 7) (v := pt b'1 0) (by decide)
 clear hF
 refine hS.opsC 1 [0] [1] fun _ => seg [(3, pt b'1 0)] [(0, none)] [] trivial fun ac wd hS => ?_
 refine list_nil_seq ?_
 refine wp_region_seq ?_
 refine hS.opsC 1 [0] [1, 3] fun _ => seg [(8, pt b'1 0)] [(0, none)] [] trivial fun ac wd hS => ?_
 refine hS.callC 17 #[pt b'1 0, vi 0, vi 12] (ar_Commit b'1 F2 (AM.new 13) 0 12 _ (hS.mem.res 0) ) ?_
 rintro _ wd ⟨F3, rfl, hA, hF⟩
 refine ⟨vi (comE (AM.new 13) 0 12), rfl, ?_⟩
 replace hS := (hS.to (hS.mem.stepA 0 rfl hA hF)).put (d := 9) (v := vi (comE (AM.new 13) 0 12)) (by decide)
 clear hF
 refine hS.opsC 1 [0] [1, 3] fun _ => seg [(4, vi (comE (AM.new 13) 0 12))] [(0, none)] [] trivial fun ac wd hS => ?_
 refine list_nil_seq ?_
 refine wp_region_seq ?_
 refine hS.opsC 1 [0] [1, 3, 4] fun _ => seg [(11, pt b'1 0)] [(0, none)] [] trivial fun ac wd hS => ?_
 refine hS.call0 18 #[pt b'1 0, vi 100, vi 44] 12 (vw_Of b'1 F3 (comM (AM.new 13) 0 12) 100 44 _ (hS.mem.res 0) (by decide +kernel)) fun ac wd hS => ?_
 refine hS.opsC 6 [0, 0, 0, 0, 100, 0] [1, 3, 4] fun ν6 => seg [(5, pt (ν6 0) 0), (6, vi 0)] [(0, none), (1, some ((ν6 0), .cells [pt b'1 0, vi 100, vi 44] 29))] [.e (ν6 0), .e (ν6 0), .e (ν6 0)] trivial fun ac wd hS => ?_
 refine list_nil_seq ?_
 refine wp_region_seq ?_
 refine hS.opsC 2 [0, 100] [1, 4, 6] fun _ => seg [(15, pt b'1 0), (16, .agg #[pt b'1 0, vi 100, vi 44])] [(0, none)] [.e (ν6 0), .e (ν6 0), .e (ν6 0)] trivial fun ac wd hS => ?_
 refine hS.call0 85 #[.agg #[pt b'1 0, vi 100, vi 44]] 17 (b_Open b'1 100 44 _  ) fun ac wd hS => ?_
 refine hS.opsC 9 [0, 0, 0, 3, 3, 80, 0, 0, 0] [1] fun _ => seg [(0, pt b'1 0), (2, vb ((((comE (AM.new 13) 0 12) : Int) == 0) && true))] [(0, some ((ν1 0), .cells [pt b'1 0, vi 100, vi 44] 125))] [.e (ν1 0), .e (ν1 0), .e (ν1 0)] trivial fun ac wd hS => ?_
 refine list_nil_seq ?_
 refine wp_ret ?_
 refine St.retC 0 hS (.tuple #[pt b'1 0, .agg #[pt b'1 0, vi 100, vi 44], vb ((((comE (AM.new 13) 0 12) : Int) == 0) && true)]) [.e (ν1 0), .e (ν1 0), .e (ν1 0)] trivial fun hw => ?_
 refine ⟨b'1, F3, retd (tuple3 rfl rfl (vbool ?_)), (hw.res 0), hw.frA⟩
 all_goals (first | rfl | decide +kernel)

set_option maxRecDepth 100000 in
set_option maxHeartbeats 1000000 in
theorem law11_awake (w : World) (hh0 : HE.holds w 1 (.fn 0 64 dbT)) :
    Calls Tryd.prog 88 #[] w fun e w' => e = .returned (vb true) ∧ Fr w w' no no := by
 refine enter (args := []) (D := no) (A := []) Tryd.func88 rfl 51 rfl [(1, .fn 0 64 dbT)] (WS.startL ⟨⟨rfl, hh0⟩, trivial⟩) fun ac hS => ?_
 refine hS.regS [0] [] fun _ => seg [] [(0, none)] [] trivial fun ac wd hS => ?_
 refine wp_region_seq ?_
 refine hS.callC 140 #[] (law11_open  _  ) ?_
 rintro _ wd ⟨b'1, F2, rfl, hN, hF⟩
 refine ⟨.tuple #[pt b'1 0, .agg #[pt b'1 0, vi 100, vi 44], vb true], rfl, ?_⟩
 replace hS := (hS.to (hS.mem.newA hN hF)).put (d := 9) (v := .tuple #[pt b'1 0, .agg #[pt b'1 0, vi 100, vi 44], vb true]) (by decide)
 clear hF
 refine hS.opsC 8 [0, 0, 0, 0, 0, 0, 100, 0] [] fun ν2 => seg [(1, pt b'1 0), (2, pt (ν2 0) 0), (3, vb true)] [(0, none), (1, some ((ν2 0), .cells [pt b'1 0, vi 100, vi 44] 125))] [.e (ν2 0), .e (ν2 0), .e (ν2 0)] trivial fun ac wd hS => ?_
 refine list_nil_seq ?_
 refine wp_seq ?_
 refine hS.regS [0, 0, 0] [1, 2, 3] fun ν3 => seg [(13, sc (ν3 0) 0 2 2), (14, vi 2), (15, vi 0)] [(0, none), (1, none), (2, some ((ν3 0), .cells [vi 4096, vi 8192] 3))] [] trivial fun ac wd hS => ?_
 refine wp_block ?_
 refine wp_loop_rounds 3 ?_
 refine rounds_in ?_
 refine hS.regS [0] [1, 2, 3, 13, 14, 15] fun _ => seg [(16, vb true)] [(0, none), (1, none), (2, none)] [] trivial fun ac wd hS => ?_
 refine wp_seq ?_
 refine hS.condT ?_
 refine wp_skip ?_
 refine pop_then ?_
 refine wp_seq ?_
 refine wp_block ?_
 refine hS.regS [0, 200, 0] [1, 2, 3, 13, 14, 15] fun _ => seg [(5, vi 4096)] [(0, none), (1, none), (2, none)] [.e (ν3 0)] trivial fun ac wd hS => ?_
 refine wp_region_lit ?_
 refine hS.opsC 2 [0, 0] [1, 2, 3, 5, 13, 14, 15] fun _ => seg [(20, vb true)] [(0, none), (1, none), (2, none)] [] trivial fun ac wd hS => ?_
 refine hS.opsC 3 [1, 1, 1] [1, 2, 3, 5, 13, 14, 15, 20] fun _ => seg [(21, pt b'1 0), (23, .agg #[vi 4096, vi 0, vu 0, vi 0])] [(0, none), (1, none), (2, none)] [.t true, .t true, .t true] trivial fun ac wd hS => ?_
 refine hS.callG true 50 #[pt b'1 0, .agg #[vi 4096, vi 0, vu 0, vi 0]] (chunk_Write b'1 F2 (comM (AM.new 13) 0 12) 4096 0 0 0 _ (hS.mem.res 0) (by decide)) ?_
 rintro _ wd ⟨F3, rfl, hA, hF⟩
 refine ⟨vi (wrcE (comM (AM.new 13) 0 12) 4096 0 0 0), rfl, ?_⟩
 replace hS := (hS.to (hS.mem.stepA 0 rfl hA hF)).put (d := 24) (v := vi (wrcE (comM (AM.new 13) 0 12) 4096 0 0 0)) (by decide)
 clear hF
 replace hS := hS.fix 24 (vi 0) (show (vi (wrcE (comM (AM.new 13) 0 12) 4096 0 0 0) : Value) = vi 0 from (vint (by decide +kernel)))
 refine hS.opsC 3 [1, 70, 0] [1, 2, 3, 5, 13, 14, 15] fun _ => seg [(27, vb true)] [(0, none), (1, none), (2, none)] [.t true, .t true] trivial fun ac wd hS => ?_
 refine hS.opsC 2 [101, 1] [1, 2, 3, 13, 14, 15, 27] fun _ => seg [(28, .agg #[pt b'1 0, vi 100, vi 44]), (29, vi 4096)] [(0, none), (1, none), (2, none)] [.t true, .t true, .e (ν2 0), .e (ν2 0), .e (ν2 0)] trivial fun ac wd hS => ?_
 refine hS.callG true 89 #[.agg #[pt b'1 0, vi 100, vi 44], vi 4096] (b_Push b'1 F3 (wrcM (comM (AM.new 13) 0 12) 4096 0 0 0) 100 44 4096 _ (hS.mem.res 0) (by decide)) ?_
 rintro _ wd ⟨F4, rfl, hA, hF⟩
 refine ⟨vi (bpE (wrcM (comM (AM.new 13) 0 12) 4096 0 0 0) 100 44 4096), rfl, ?_⟩
 replace hS := (hS.to (hS.mem.stepA 0 rfl hA hF)).put (d := 30) (v := vi (bpE (wrcM (comM (AM.new 13) 0 12) 4096 0 0 0) 100 44 4096)) (by decide)
 clear hF
 replace hS := hS.fix 30 (vi 0) (show (vi (bpE (wrcM (comM (AM.new 13) 0 12) 4096 0 0 0) 100 44 4096) : Value) = vi 0 from (vint (by decide +kernel)))
 refine hS.opsC 3 [1, 70, 0] [1, 2, 13, 14, 15] fun _ => seg [(3, vb true)] [(0, none), (1, none), (2, none)] [.t true, .t true] trivial fun ac wd hS => ?_
 refine list_nil ?_
 refine pop_block ?_
 refine pop_then ?_
 refine hS.regC [0, 0] [1, 2, 3, 13, 14] fun _ => seg [(15, vi 1)] [(0, none), (1, none), (2, none)] [] trivial fun ac wd hS => ?_
 refine pop_then ?_
 refine rounds_in ?_
 refine hS.regS [0] [1, 2, 3, 13, 14, 15] fun _ => seg [(16, vb true)] [(0, none), (1, none), (2, none)] [] trivial fun ac wd hS => ?_
 refine wp_seq ?_
 refine hS.condT ?_
 refine wp_skip ?_
 refine pop_then ?_
 refine wp_seq ?_
 refine wp_block ?_
 refine hS.regS [0, 200, 0] [1, 2, 3, 13, 14, 15] fun _ => seg [(5, vi 8192)] [(0, none), (1, none), (2, none)] [.e (ν3 0)] trivial fun ac wd hS => ?_
 refine wp_region_lit ?_
 refine hS.opsC 2 [0, 0] [1, 2, 3, 5, 13, 14, 15] fun _ => seg [(20, vb true)] [(0, none), (1, none), (2, none)] [] trivial fun ac wd hS => ?_
 refine hS.opsC 3 [1, 1, 1] [1, 2, 3, 5, 13, 14, 15, 20] fun _ => seg [(21, pt b'1 0), (23, .agg #[vi 8192, vi 0, vu 0, vi 0])] [(0, none), (1, none), (2, none)] [.t true, .t true, .t true] trivial fun ac wd hS => ?_
 refine hS.callG true 50 #[pt b'1 0, .agg #[vi 8192, vi 0, vu 0, vi 0]] (chunk_Write b'1 F4 (bpM (wrcM (comM (AM.new 13) 0 12) 4096 0 0 0) 100 44 4096) 8192 0 0 0 _ (hS.mem.res 0) (by decide)) ?_
 rintro _ wd ⟨F5, rfl, hA, hF⟩
 refine ⟨vi (wrcE (bpM (wrcM (comM (AM.new 13) 0 12) 4096 0 0 0) 100 44 4096) 8192 0 0 0), rfl, ?_⟩
 replace hS := (hS.to (hS.mem.stepA 0 rfl hA hF)).put (d := 24) (v := vi (wrcE (bpM (wrcM (comM (AM.new 13) 0 12) 4096 0 0 0) 100 44 4096) 8192 0 0 0)) (by decide)
 clear hF
 replace hS := hS.fix 24 (vi 0) (show (vi (wrcE (bpM (wrcM (comM (AM.new 13) 0 12) 4096 0 0 0) 100 44 4096) 8192 0 0 0) : Value) = vi 0 from (vint (by decide +kernel)))
 refine hS.opsC 3 [1, 70, 0] [1, 2, 3, 5, 13, 14, 15] fun _ => seg [(27, vb true)] [(0, none), (1, none), (2, none)] [.t true, .t true] trivial fun ac wd hS => ?_
 refine hS.opsC 2 [101, 1] [1, 2, 3, 13, 14, 15, 27] fun _ => seg [(28, .agg #[pt b'1 0, vi 100, vi 44]), (29, vi 8192)] [(0, none), (1, none), (2, none)] [.t true, .t true, .e (ν2 0), .e (ν2 0), .e (ν2 0)] trivial fun ac wd hS => ?_
 refine hS.callG true 89 #[.agg #[pt b'1 0, vi 100, vi 44], vi 8192] (b_Push b'1 F5 (wrcM (bpM (wrcM (comM (AM.new 13) 0 12) 4096 0 0 0) 100 44 4096) 8192 0 0 0) 100 44 8192 _ (hS.mem.res 0) (by decide)) ?_
 rintro _ wd ⟨F6, rfl, hA, hF⟩
 refine ⟨vi (bpE (wrcM (bpM (wrcM (comM (AM.new 13) 0 12) 4096 0 0 0) 100 44 4096) 8192 0 0 0) 100 44 8192), rfl, ?_⟩
 replace hS := (hS.to (hS.mem.stepA 0 rfl hA hF)).put (d := 30) (v := vi (bpE (wrcM (bpM (wrcM (comM (AM.new 13) 0 12) 4096 0 0 0) 100 44 4096) 8192 0 0 0) 100 44 8192)) (by decide)
 clear hF
 replace hS := hS.fix 30 (vi 0) (show (vi (bpE (wrcM (bpM (wrcM (comM (AM.new 13) 0 12) 4096 0 0 0) 100 44 4096) 8192 0 0 0) 100 44 8192) : Value) = vi 0 from (vint (by decide +kernel)))
 refine hS.opsC 3 [1, 70, 0] [1, 2, 13, 14, 15] fun _ => seg [(3, vb true)] [(0, none), (1, none), (2, none)] [.t true, .t true] trivial fun ac wd hS => ?_
 refine list_nil ?_
 refine pop_block ?_
 refine pop_then ?_
 refine hS.regC [0, 0] [1, 2, 3, 13, 14] fun _ => seg [(15, vi 2)] [(0, none), (1, none), (2, none)] [] trivial fun ac wd hS => ?_
 refine pop_then ?_
 refine rounds_in ?_
 refine hS.regS [0] [1, 2, 3, 13, 14, 15] fun _ => seg [(16, vb false)] [(0, none), (1, none), (2, none)] [] trivial fun ac wd hS => ?_
 refine wp_seq ?_
 refine hS.condF ?_
 refine wp_exit ?_
 refine pop_then_exit ?_
 refine pop_then_exit ?_
 refine pop_block_hit ?_
 refine pop_then ?_
 refine wp_region_seq ?_
 refine hS.opsC 1 [100] [3] fun _ => seg [(35, .agg #[pt b'1 0, vi 100, vi 44])] [(0, none)] [.e (ν2 0), .e (ν2 0), .e (ν2 0)] trivial fun ac wd hS => ?_
 refine hS.callC 86 #[.agg #[pt b'1 0, vi 100, vi 44], vi 0] (b_Pop b'1 F6 (bpM (wrcM (bpM (wrcM (comM (AM.new 13) 0 12) 4096 0 0 0) 100 44 4096) 8192 0 0 0) 100 44 8192) 100 44 0 _ (hS.mem.res 0) (by decide)) ?_
 rintro _ wd ⟨F7, rfl, hA, hF⟩
 refine ⟨.tuple #[.agg #[vi (bqAt (bpM (wrcM (bpM (wrcM (comM (AM.new 13) 0 12) 4096 0 0 0) 100 44 4096) 8192 0 0 0) 100 44 8192) 100 44 0), vi (bqOrd (bpM (wrcM (bpM (wrcM (comM (AM.new 13) 0 12) 4096 0 0 0) 100 44 4096) 8192 0 0 0) 100 44 8192) 100 44 0), vu (bqOwn (bpM (wrcM (bpM (wrcM (comM (AM.new 13) 0 12) 4096 0 0 0) 100 44 4096) 8192 0 0 0) 100 44 8192) 100 44 0), vi 0], vb (bqOk (bpM (wrcM (bpM (wrcM (comM (AM.new 13) 0 12) 4096 0 0 0) 100 44 4096) 8192 0 0 0) 100 44 8192) 100 44 0)], rfl, ?_⟩
 replace hS := (hS.to (hS.mem.stepA 0 rfl hA hF)).put (d := 36) (v := .tuple #[.agg #[vi (bqAt (bpM (wrcM (bpM (wrcM (comM (AM.new 13) 0 12) 4096 0 0 0) 100 44 4096) 8192 0 0 0) 100 44 8192) 100 44 0), vi (bqOrd (bpM (wrcM (bpM (wrcM (comM (AM.new 13) 0 12) 4096 0 0 0) 100 44 4096) 8192 0 0 0) 100 44 8192) 100 44 0), vu (bqOwn (bpM (wrcM (bpM (wrcM (comM (AM.new 13) 0 12) 4096 0 0 0) 100 44 4096) 8192 0 0 0) 100 44 8192) 100 44 0), vi 0], vb (bqOk (bpM (wrcM (bpM (wrcM (comM (AM.new 13) 0 12) 4096 0 0 0) 100 44 4096) 8192 0 0 0) 100 44 8192) 100 44 0)]) (by decide)
 clear hF
 replace hS := hS.fix 36 (.tuple #[.agg #[vi 8192, vi (bqOrd (bpM (wrcM (bpM (wrcM (comM (AM.new 13) 0 12) 4096 0 0 0) 100 44 4096) 8192 0 0 0) 100 44 8192) 100 44 0), vu (bqOwn (bpM (wrcM (bpM (wrcM (comM (AM.new 13) 0 12) 4096 0 0 0) 100 44 4096) 8192 0 0 0) 100 44 8192) 100 44 0), vi 0], vb true]) (show (.tuple #[.agg #[vi (bqAt (bpM (wrcM (bpM (wrcM (comM (AM.new 13) 0 12) 4096 0 0 0) 100 44 4096) 8192 0 0 0) 100 44 8192) 100 44 0), vi (bqOrd (bpM (wrcM (bpM (wrcM (comM (AM.new 13) 0 12) 4096 0 0 0) 100 44 4096) 8192 0 0 0) 100 44 8192) 100 44 0), vu (bqOwn (bpM (wrcM (bpM (wrcM (comM (AM.new 13) 0 12) 4096 0 0 0) 100 44 4096) 8192 0 0 0) 100 44 8192) 100 44 0), vi 0], vb (bqOk (bpM (wrcM (bpM (wrcM (comM (AM.new 13) 0 12) 4096 0 0 0) 100 44 4096) 8192 0 0 0) 100 44 8192) 100 44 0)] : Value) = .tuple #[.agg #[vi 8192, vi (bqOrd (bpM (wrcM (bpM (wrcM (comM (AM.new 13) 0 12) 4096 0 0 0) 100 44 4096) 8192 0 0 0) 100 44 8192) 100 44 0), vu (bqOwn (bpM (wrcM (bpM (wrcM (comM (AM.new 13) 0 12) 4096 0 0 0) 100 44 4096) 8192 0 0 0) 100 44 8192) 100 44 0), vi 0], vb true] from (tuple2 (agg4 (vint (by decide +kernel)) rfl rfl rfl) (vbool (by decide +kernel))))
 refine hS.opsC 6 [0, 0, 0, 0, 100, 0] [3] fun ν22 => seg [(6, pt (ν22 0) 0), (7, vb true)] [(0, none), (1, some ((ν22 0), .cells [vi 8192, vi (bqOrd (bpM (wrcM (bpM (wrcM (comM (AM.new 13) 0 12) 4096 0 0 0) 100 44 4096) 8192 0 0 0) 100 44 8192) 100 44 0), vu (bqOwn (bpM (wrcM (bpM (wrcM (comM (AM.new 13) 0 12) 4096 0 0 0) 100 44 4096) 8192 0 0 0) 100 44 8192) 100 44 0), vi 0] 70))] [.e (ν22 0), .e (ν22 0), .e (ν22 0), .e (ν22 0)] trivial fun ac wd hS => ?_
 refine list_nil_seq ?_
 refine wp_region_seq ?_
 refine hS.call0 125 #[] 39 (law10_Awake  _ (hS.mem.get 0 1 (.fn 0 64 dbT)) ) fun ac wd hS => ?_
 refine hS.opsC 12 [0, 1, 70, 0, 1, 70, 0, 1, 101, 1, 70, 0] [] fun _ => seg [(0, vb true)] [(0, none)] [.t true, .t true, .t true, .e (ν22 0), .t true, .t true, .t true, .t true, .t true] trivial fun ac wd hS => ?_
 refine list_nil_seq ?_
 refine wp_ret ?_
 refine St.retC 0 hS (vb true) [] trivial fun hw => ?_
 refine ⟨retd rfl, hw.fr0⟩

set_option maxRecDepth 100000 in
set_option maxHeartbeats 1000000 in
theorem law11_BinsNone (w : World) (hh0 : HE.holds w 1 (.fn 0 64 dbT)) :
    Calls Tryd.prog 14 #[] w fun e w' => e = .returned (vb true) ∧ Fr w w' no no := by
 refine enter (args := []) (D := no) (A := []) Tryd.func14 rfl 87 rfl [(1, .fn 0 64 dbT)] (WS.startL ⟨⟨rfl, hh0⟩, trivial⟩) fun ac hS => ?_
 refine hS.regS [0] [] fun _ => seg [] [(0, none)] [] trivial fun ac wd hS => ?_
 refine wp_region_seq ?_
 refine hS.opsC 1 [0] [] fun _ => seg [(13, .agg #[pnil, vi 0, vi 0])] [(0, none)] [] trivial fun ac wd hS => ?_
 refine hS.call0 85 #[.agg #[pnil, vi 0, vi 0]] 14 (b_Open_nil  _  ) fun ac wd hS => ?_
 refine hS.opsC 2 [0, 100] [] fun ν3 => seg [(1, pt (ν3 0) 0)] [(0, none), (1, some ((ν3 0), .cells [pnil, vi 0, vi 0] 125))] [.e (ν3 0), .e (ν3 0), .e (ν3 0)] trivial fun ac wd hS => ?_
 refine list_nil_seq ?_
 refine wp_region_seq ?_
 refine hS.callC 16 #[vi 2] (ar_New 2 _  ) ?_
 rintro _ wd ⟨b'1, F2, rfl, hN, hF⟩
 refine ⟨pt b'1 0, rfl, ?_⟩
 replace hS := (hS.to (hS.mem.newA hN hF)).put (d := 15) (v := pt b'1 0) (by decide)
 clear hF
 refine hS.opsC 1 [0] [1] fun _ => seg [(2, pt b'1 0)] [(0, none), (1, none)] [] trivial fun ac wd hS => ?_
 refine list_nil_seq ?_
 refine wp_region_seq ?_
 refine hS.opsC 1 [0] [1, 2] fun _ => seg [(16, pt b'1 0)] [(0, none), (1, none)] [] trivial fun ac wd hS => ?_
 refine hS.callC 17 #[pt b'1 0, vi 0, vi 2] (ar_Commit b'1 F2 (AM.new 2) 0 2 _ (hS.mem.res 0) ) ?_
 rintro _ wd ⟨F3, rfl, hA, hF⟩
 refine ⟨vi (comE (AM.new 2) 0 2), rfl, ?_⟩
 replace hS := (hS.to (hS.mem.stepA 0 rfl hA hF)).put (d := 17) (v := vi (comE (AM.new 2) 0 2)) (by decide)
 clear hF
 replace hS := hS.fix 17 (vi 0) (show (vi (comE (AM.new 2) 0 2) : Value) = vi 0 from (vint (by decide +kernel)))
 refine hS.opsC 1 [0] [1, 2] fun _ => seg [(3, vi 0)] [(0, none), (1, none)] [] trivial fun ac wd hS => ?_
 refine list_nil_seq ?_
 refine wp_region_seq ?_
 refine hS.opsC 1 [0] [1, 3] fun _ => seg [(19, pt b'1 0)] [(0, none), (1, none)] [] trivial fun ac wd hS => ?_
 refine hS.call0 18 #[pt b'1 0, vi 0, vi 39] 20 (vw_Of b'1 F3 (comM (AM.new 2) 0 2) 0 39 _ (hS.mem.res 0) (by decide +kernel)) fun ac wd hS => ?_
 refine hS.opsC 6 [0, 0, 0, 0, 200, 0] [1, 3] fun ν8 => seg [(4, pt (ν8 0) 0), (5, vi 0)] [(0, none), (1, none), (2, some ((ν8 0), .cells [pt b'1 0, vi 0, vi 39] 29))] [.e (ν8 0), .e (ν8 0), .e (ν8 0)] trivial fun ac wd hS => ?_
 refine list_nil_seq ?_
 refine wp_region_seq ?_
 refine hS.opsC 1 [200] [1, 3, 5] fun _ => seg [(23, .agg #[pt b'1 0, vi 0, vi 39])] [(0, none), (1, none)] [.e (ν8 0), .e (ν8 0), .e (ν8 0)] trivial fun ac wd hS => ?_
 refine hS.call0 85 #[.agg #[pt b'1 0, vi 0, vi 39]] 24 (b_Open b'1 0 39 _  ) fun ac wd hS => ?_
 refine hS.opsC 2 [0, 200] [1, 3, 5] fun ν10 => seg [(6, pt (ν10 0) 0)] [(0, none), (1, none), (2, some ((ν10 0), .cells [pt b'1 0, vi 0, vi 39] 125))] [.e (ν10 0), .e (ν10 0), .e (ν10 0)] trivial fun ac wd hS => ?_
 refine list_nil_seq ?_
 refine wp_region_seq ?_
 refine hS.opsC 1 [100] [1, 3, 5, 6] fun _ => seg [(26, .agg #[pnil, vi 0, vi 0])] [(0, none), (1, none), (2, none)] [.e (ν3 0), .e (ν3 0), .e (ν3 0)] trivial fun ac wd hS => ?_
 refine hS.call0 86 #[.agg #[pnil, vi 0, vi 0], vi 0] 27 (b_Pop_nil 0 _  ) fun ac wd hS => ?_
 refine hS.opsC 6 [0, 0, 0, 0, 300, 0] [1, 3, 5, 6] fun ν12 => seg [(8, vb false)] [(0, none), (1, none), (2, none)] [.e (ν12 0), .e (ν12 0), .e (ν12 0), .e (ν12 0)] trivial fun ac wd hS => ?_
 refine list_nil_seq ?_
 refine wp_region_seq ?_
 refine hS.opsC 1 [200] [1, 3, 5, 6, 8] fun _ => seg [(31, .agg #[pt b'1 0, vi 0, vi 39])] [(0, none), (1, none), (2, none)] [.e (ν10 0), .e (ν10 0), .e (ν10 0)] trivial fun ac wd hS => ?_
 refine hS.callC 86 #[.agg #[pt b'1 0, vi 0, vi 39], vi 0] (b_Pop b'1 F3 (comM (AM.new 2) 0 2) 0 39 0 _ (hS.mem.res 0) (by decide)) ?_
 rintro _ wd ⟨F4, rfl, hA, hF⟩
 refine ⟨.tuple #[.agg #[vi (bqAt (comM (AM.new 2) 0 2) 0 39 0), vi (bqOrd (comM (AM.new 2) 0 2) 0 39 0), vu (bqOwn (comM (AM.new 2) 0 2) 0 39 0), vi 0], vb (bqOk (comM (AM.new 2) 0 2) 0 39 0)], rfl, ?_⟩
 replace hS := (hS.to (hS.mem.stepA 0 rfl hA hF)).put (d := 32) (v := .tuple #[.agg #[vi (bqAt (comM (AM.new 2) 0 2) 0 39 0), vi (bqOrd (comM (AM.new 2) 0 2) 0 39 0), vu (bqOwn (comM (AM.new 2) 0 2) 0 39 0), vi 0], vb (bqOk (comM (AM.new 2) 0 2) 0 39 0)]) (by decide)
 clear hF
 replace hS := hS.fix 32 (.tuple #[.agg #[vi 0, vi 0, vu 0, vi 0], vb false]) (show (.tuple #[.agg #[vi (bqAt (comM (AM.new 2) 0 2) 0 39 0), vi (bqOrd (comM (AM.new 2) 0 2) 0 39 0), vu (bqOwn (comM (AM.new 2) 0 2) 0 39 0), vi 0], vb (bqOk (comM (AM.new 2) 0 2) 0 39 0)] : Value) = .tuple #[.agg #[vi 0, vi 0, vu 0, vi 0], vb false] from (tuple2 (agg4 (vint (by decide +kernel)) (vint (by decide +kernel)) (vint (by decide +kernel)) rfl) (vbool (by decide +kernel))))
 refine hS.opsC 6 [0, 0, 0, 0, 300, 0] [1, 3, 5, 6, 8] fun ν14 => seg [(10, vb false)] [(0, none), (1, none), (2, none)] [.e (ν14 0), .e (ν14 0), .e (ν14 0), .e (ν14 0)] trivial fun ac wd hS => ?_
 refine list_nil_seq ?_
 refine wp_region_seq ?_
 refine hS.opsC 1 [200] [1, 3, 5, 6, 8, 10] fun _ => seg [(36, .agg #[pt b'1 0, vi 0, vi 39])] [(0, none), (1, none), (2, none)] [.e (ν10 0), .e (ν10 0), .e (ν10 0)] trivial fun ac wd hS => ?_
 refine hS.call0 87 #[.agg #[pt b'1 0, vi 0, vi 39], vi 0] 37 (b_Least_small b'1 F4 (bqM (comM (AM.new 2) 0 2) 0 39 0) 0 39 _ (hS.mem.res 0) (by decide) (by decide)) fun ac wd hS => ?_
 refine hS.opsC 5 [0, 0, 0, 0, 0] [1, 3, 5, 6, 8, 10] fun _ => seg [(12, vb false)] [(0, none), (1, none), (2, none)] [] trivial fun ac wd hS => ?_
 refine list_nil_seq ?_
 refine St.ordBeginS [(0, 0), (1, 1), (2, 1), (3, 1), (4, 1), (5, 1), (6, 1), (7, 1), (8, 1), (9, 1), (10, 1), (11, 0), (12, 1), (13, 1), (14, 1), (15, 1), (16, 0), (17, 1), (18, 1), (19, 1), (20, 1), (21, 1), (22, 1), (23, 1), (24, 1), (25, 1), (26, 1), (27, 1), (28, 1), (29, 1), (30, 1), (31, 1), (32, 1), (35, 1), (39, 1), (42, 1), (33, 0), (34, 1), (36, 0), (37, 1), (38, 1), (40, 0), (41, 1), (43, 0), (44, 1), (45, 1), (46, 1), (47, 1)] [(1, .fn 0 64 dbT), ((ν3 0), .cells [pnil, vi 0, vi 0] 125), ((ν10 0), .cells [pt b'1 0, vi 0, vi 39] 125)] [0, 1, 2] hS fun wd hS => ?_
 have hap := hS.mem.pairs (Hf := [(1, .fn 0 64 dbT), ((ν3 0), .cells [pnil, vi 0, vi 0] 125), ((ν10 0), .cells [pt b'1 0, vi 0, vi 39] 125)]) (l := [0, 1, 2])
 refine hS.ordC 0 88 #[] (law11_awake  _ (hS.mem.get 0 1 (.fn 0 64 dbT)) ) ?_
 rintro _ wd ⟨rfl, hF⟩
 refine ⟨vb true, rfl, ?_⟩
 replace hS := (hS.to (hS.mem.keep0 hF)).put (d := 40) (v := vb true) (by decide)
 clear hF
 refine hS.ordV (l := [0, 1, 2]) ?_
 refine St.ordF [0, 1, 1, 70, 0, 1, 1, 70, 0, 101] [1, 2, 3, 4, 5, 6, 7, 8, 9, 10] [1, 6, 8, 10, 12] (rest := [(11, 0), (12, 1), (13, 1), (14, 1), (15, 1), (16, 0), (17, 1), (18, 1), (19, 1), (20, 1), (21, 1), (22, 1), (23, 1), (24, 1), (25, 1), (26, 1), (27, 1), (28, 1), (29, 1), (30, 1), (31, 1), (32, 1), (35, 1), (39, 1), (42, 1), (33, 0), (34, 1), (36, 0), (37, 1), (38, 1), (40, 0), (41, 1), (43, 0), (44, 1), (45, 1), (46, 1), (47, 1)]) hS hap <| segF [(49, vb true), (50, .agg #[pnil, vi 0, vi 0])] [.t true, .e (ν3 0), .e (ν3 0), .e (ν3 0), .t true, .t true, .t true, .t true, .t true, .t true] trivial fun ac hS => ?_
 refine hS.ordCG 11 true 89 #[.agg #[pnil, vi 0, vi 0], vi 0] (b_Push_nil 0 _  ) ?_
 rintro _ wd ⟨rfl, hF⟩
 refine ⟨vi 1, rfl, ?_⟩
 replace hS := (hS.to (hS.mem.keep0 hF)).put (d := 51) (v := vi 1) (by decide)
 clear hF
 refine hS.ordV (l := [0, 1, 2]) ?_
 refine St.ordF [1, 70, 0, 201] [12, 13, 14, 15] [1, 6, 8, 10, 12] (rest := [(16, 0), (17, 1), (18, 1), (19, 1), (20, 1), (21, 1), (22, 1), (23, 1), (24, 1), (25, 1), (26, 1), (27, 1), (28, 1), (29, 1), (30, 1), (31, 1), (32, 1), (35, 1), (39, 1), (42, 1), (33, 0), (34, 1), (36, 0), (37, 1), (38, 1), (40, 0), (41, 1), (43, 0), (44, 1), (45, 1), (46, 1), (47, 1)]) hS hap <| segF [(54, vb true), (55, .agg #[pt b'1 0, vi 0, vi 39])] [.t true, .e (ν10 0), .e (ν10 0), .e (ν10 0), .t true, .t true] trivial fun ac hS => ?_
 refine hS.ordCG 16 true 89 #[.agg #[pt b'1 0, vi 0, vi 39], vi 0] (b_Push b'1 F4 (bqM (comM (AM.new 2) 0 2) 0 39 0) 0 39 0 _ (hS.mem.res 0) (by decide)) ?_
 rintro _ wd ⟨F5, rfl, hA, hF⟩
 refine ⟨vi (bpE (bqM (comM (AM.new 2) 0 2) 0 39 0) 0 39 0), rfl, ?_⟩
 replace hS := (hS.to (hS.mem.stepA 0 rfl hA hF)).put (d := 56) (v := vi (bpE (bqM (comM (AM.new 2) 0 2) 0 39 0) 0 39 0)) (by decide)
 clear hF
 replace hS := hS.fix 56 (vi 3) (show (vi (bpE (bqM (comM (AM.new 2) 0 2) 0 39 0) 0 39 0) : Value) = vi 3 from (vint (by decide +kernel)))
 refine hS.ordV (l := [0, 1, 2]) ?_
 refine St.ordF [1, 70, 0, 1, 1, 70, 0, 1, 1, 70, 0, 1, 1, 70, 0, 101, 201, 101, 201] [17, 18, 19, 20, 21, 22, 23, 24, 25, 26, 27, 28, 29, 30, 31, 32, 35, 39, 42] [] (rest := [(33, 0), (34, 1), (36, 0), (37, 1), (38, 1), (40, 0), (41, 1), (43, 0), (44, 1), (45, 1), (46, 1), (47, 1)]) hS hap <| segF [(71, vb true), (72, .agg #[pnil, vi 0, vi 0]), (75, .agg #[pt b'1 0, vi 0, vi 39]), (79, .agg #[pnil, vi 0, vi 0]), (82, .agg #[pt b'1 0, vi 0, vi 39])] [.t true, .e (ν10 0), .e (ν10 0), .e (ν10 0), .t true, .e (ν3 0), .e (ν3 0), .e (ν3 0), .t true, .e (ν10 0), .e (ν10 0), .e (ν10 0), .t true, .e (ν3 0), .e (ν3 0), .e (ν3 0), .t true, .t true, .t true, .t true, .t true, .t true, .t true, .t true, .t true, .t true, .t true] trivial fun ac hS => ?_
 refine hS.ordCG 33 true 90 #[.agg #[pnil, vi 0, vi 0], vi 0] (b_All_nil 0 _  ) ?_
 rintro _ wd ⟨rfl, hF⟩
 refine ⟨vnil, rfl, ?_⟩
 replace hS := (hS.to (hS.mem.keep0 hF)).put (d := 73) (v := vnil) (by decide)
 clear hF
 refine hS.ordV (l := [0, 1, 2]) ?_
 refine St.ordF [1] [34] [71, 75, 79, 82] (rest := [(36, 0), (37, 1), (38, 1), (40, 0), (41, 1), (43, 0), (44, 1), (45, 1), (46, 1), (47, 1)]) hS hap <| segF [(74, vi 0)] [.t true] trivial fun ac hS => ?_
 refine hS.ordCG 36 true 90 #[.agg #[pt b'1 0, vi 0, vi 39], vi 0] (b_All_small b'1 F5 (bpM (bqM (comM (AM.new 2) 0 2) 0 39 0) 0 39 0) 0 39 0 _ (hS.mem.res 0) (by decide) (by decide)) ?_
 rintro _ wd ⟨rfl, hF⟩
 refine ⟨vnil, rfl, ?_⟩
 replace hS := (hS.to (hS.mem.keep0 hF)).put (d := 76) (v := vnil) (by decide)
 clear hF
 refine hS.ordV (l := [0, 1, 2]) ?_
 refine St.ordF [1, 1] [37, 38] [71, 79, 82] (rest := [(40, 0), (41, 1), (43, 0), (44, 1), (45, 1), (46, 1), (47, 1)]) hS hap <| segF [(78, vi 0)] [.t true, .t true] trivial fun ac hS => ?_
 refine hS.ordCG 40 true 91 #[.agg #[pnil, vi 0, vi 0]] (b_Count_nil  _  ) ?_
 rintro _ wd ⟨rfl, hF⟩
 refine ⟨vi 0, rfl, ?_⟩
 replace hS := (hS.to (hS.mem.keep0 hF)).put (d := 80) (v := vi 0) (by decide)
 clear hF
 refine hS.ordV (l := [0, 1, 2]) ?_
 refine St.ordF [1] [41] [71, 82] (rest := [(43, 0), (44, 1), (45, 1), (46, 1), (47, 1)]) hS hap <| segF [(81, vi 0)] [.t true] trivial fun ac hS => ?_
 refine hS.ordCG 43 true 91 #[.agg #[pt b'1 0, vi 0, vi 39]] (b_Count_small b'1 F5 (bpM (bqM (comM (AM.new 2) 0 2) 0 39 0) 0 39 0) 0 39 _ (hS.mem.res 0) (by decide) (by decide)) ?_
 rintro _ wd ⟨rfl, hF⟩
 refine ⟨vi 0, rfl, ?_⟩
 replace hS := (hS.to (hS.mem.keep0 hF)).put (d := 83) (v := vi 0) (by decide)
 clear hF
 refine hS.ordV (l := [0, 1, 2]) ?_
 refine St.ordF [1, 1, 70, 0] [44, 45, 46, 47] [] (rest := []) hS hap <| segF [(0, vb true)] [.t true, .t true, .t true] trivial fun ac hS => ?_
 refine ord_nil ?_
 refine wp_ret ?_
 refine St.retC 0 hS (vb true) [] trivial fun hw => ?_
 refine ⟨retd rfl, hw.fr0⟩

end Go.Proofs.YtghohcgbmceiaaaDoor.K
