/-
  Walks, printed by w2.py.
-/
import Derived.Test.YtojjkjedcafpeaaGreatDoorM5
import Derived.Test.YtojjkjedcafpeaaGreatDoorNd
import Derived.Test.YtojjkjedcafpeaaGreatDoorProg
namespace Go.Proofs.YtojjkjedcafpeaaGreatDoor.K
set_option linter.unusedVariables false
set_option linter.unusedSimpArgs false

set_option maxRecDepth 100000 in
set_option maxHeartbeats 1000000 in
theorem ls_Open (b : Nat) (o_ : Int) (z : Int) (w : World) :
    Calls Tryz.prog 106 #[.agg #[pt b 0, vi o_, vi z]] w fun e w' => e = .returned (.agg #[pt b 0, vi o_, vi z]) ∧ Fr w w' no no := by
 refine enter (args := [.agg #[pt b 0, vi o_, vi z]]) (D := no) (A := []) Tryz.func106 rfl 5 rfl [] (WS.startL trivial) fun ac hS => ?_
 refine hS.regS [0, 0] [] fun ν1 => seg [(1, pt (ν1 0) 0), (2, pt (ν1 1) 0)] [(0, some ((ν1 0), .cells [pt b 0, vi o_, vi z] 49)), (1, some ((ν1 1), .cells [pnil, vi 0, vi 0] 51))] [] trivial fun ac wd hS => ?_
 refine hS.regS [0, 0, 100] [2] fun _ => seg [] [(1, some ((ν1 1), .cells [pt b 0, vi o_, vi z] 51))] [.e (ν1 1), .e (ν1 1), .e (ν1 1), .e (ν1 0), .e (ν1 0), .e (ν1 0)] trivial fun ac wd hS => ?_
 refine wp_ret ?_
 refine St.retC 0 hS (.agg #[pt b 0, vi o_, vi z]) [.e (ν1 1), .e (ν1 1), .e (ν1 1)] trivial fun hw => ?_
 refine ⟨retd rfl, hw.fr0⟩

set_option maxRecDepth 100000 in
set_option maxHeartbeats 1000000 in
theorem ls_Len (b : Nat) (o_ : Int) (z : Int) (w : World) (ho : 0 ≤ o_ ∧ 0 ≤ z ∧ o_ + z ≤ 4294967296) :
    Calls Tryz.prog 140 #[.agg #[pt b 0, vi o_, vi z]] w fun e w' => e = .returned (vi (z / 8)) ∧ Fr w w' no no := by
 refine enter (args := [.agg #[pt b 0, vi o_, vi z]]) (D := no) (A := []) Tryz.func140 rfl 7 rfl [] (WS.startL trivial) fun ac hS => ?_
 refine hS.regS [0, 0] [] fun ν1 => seg [(1, pt (ν1 0) 0)] [(0, some ((ν1 0), .cells [pt b 0, vi o_, vi z] 51))] [] trivial fun ac wd hS => ?_
 refine wp_region_seq ?_
 refine hS.opsC 2 [0, 0] [] fun _ => seg [(4, .agg #[pt b 0, vi o_, vi z])] [] [.e (ν1 0), .e (ν1 0), .e (ν1 0)] trivial fun ac wd hS => ?_
 refine hS.call0 151 #[.agg #[pt b 0, vi o_, vi z]] 5 (vw_Size b o_ z _  ) fun ac wd hS => ?_
 refine hS.opsC 2 [20, 0] [] fun _ => seg [(2, vi (z / 8))] [] [.p ((8 : Int) ≠ 0 ∧ IntKind.i64.wrap (Int.tdiv z 8) = z / 8)] ⟨quo2 (by omega) (by omega) (by omega), trivial⟩ fun ac wd hS => ?_
 refine list_nil_seq ?_
 refine wp_ret ?_
 refine St.retC 0 hS (vi (z / 8)) [] trivial fun hw => ?_
 refine ⟨retd rfl, hw.fr0⟩

set_option maxRecDepth 100000 in
set_option maxHeartbeats 1000000 in
theorem ls_check (b : Nat) (o_ : Int) (z : Int) (k : Int) (w : World) (ho : 0 ≤ o_ ∧ 0 ≤ z ∧ o_ + z ≤ 4294967296) :
    Calls Tryz.prog 115 #[.agg #[pt b 0, vi o_, vi z], vi k] w fun e w' => e = .returned (vi (lchE z k)) ∧ Fr w w' no no := by
 refine enter (args := [.agg #[pt b 0, vi o_, vi z], vi k]) (D := no) (A := []) Tryz.func115 rfl 19 rfl [] (WS.startL trivial) fun ac hS => ?_
 refine hS.regS [0, 0] [1] fun ν1 => seg [(2, pt (ν1 0) 0)] [(0, some ((ν1 0), .cells [pt b 0, vi o_, vi z] 51))] [] trivial fun ac wd hS => ?_
 refine wp_seq ?_
 refine wp_block ?_
 refine hS.regS [0, 0, 0, 0, 0] [1, 2] fun _ => seg [(5, vb false)] [(0, none)] [.e (ν1 0)] trivial fun ac wd hS => ?_
 refine hS.condF ?_
 refine wp_region_seq ?_
 refine hS.opsC 3 [0, 0, 0] [1, 2] fun _ => seg [(13, vb (decide ((k : Int) < 0)))] [(0, none)] [] trivial fun ac wd hS => ?_
 rcases Bool.eq_false_or_eq_true (decide ((k : Int) < 0)) with hg1o | hg1o
 ·
  have hg1 := nrm hg1o
  replace hS := hS.fix 13 (vb true) (congrArg Value.bool hg1o)
  refine hS.opsC 6 [2, 2, 2, 2, 70, 0] [] fun _ => seg [(10, vb true)] [] [.t true, .t true, .t true, .t true, .t true] trivial fun ac wd hS => ?_
  refine list_nil_seq ?_
  refine hS.condT ?_
  refine hS.regS [0] [] fun _ => seg [(4, vi 3)] [] [] trivial fun ac wd hS => ?_
  refine wp_ret ?_
  refine pop_block_ret ?_
  refine pop_then_ret ?_
  refine St.retC 0 hS (vi 3) [] trivial fun hw => ?_
  refine ⟨retd (vint ?_), hw.fr0⟩
  all_goals (first | exact lch_no (by simp_all; omega) | exact lch_no (by omega) | exact lch_yes (by simp_all; omega) | exact lch_yes (by omega))
 ·
  have hg1 := nrm hg1o
  replace hS := hS.fix 13 (vb false) (congrArg Value.bool hg1o)
  refine hS.opsC 2 [1, 1] [13] fun _ => seg [(14, vi k), (15, .agg #[pt b 0, vi o_, vi z])] [] [.t false, .e (ν1 0), .e (ν1 0), .e (ν1 0), .t false] trivial fun ac wd hS => ?_
  refine hS.callG false 140 #[.agg #[pt b 0, vi o_, vi z]] (ls_Len b o_ z _  (by first | assumption | omega | (simp_all; done) | (simp_all; omega))) ?_
  rintro _ wd ⟨rfl, hF⟩
  refine ⟨vi (z / 8), rfl, ?_⟩
  replace hS := (hS.to (hS.mem.keep0 hF)).put (d := 16) (v := vi (z / 8)) (by decide)
  clear hF
  refine hS.opsC 3 [1, 60, 0] [] fun _ => seg [(10, vb (decide (((z / 8) : Int) ≤ k)))] [] [.t false, .t false] trivial fun ac wd hS => ?_
  refine list_nil_seq ?_
  refine hS.condC (decide (((z / 8) : Int) ≤ k)) (fun hb2o hb2 => ?_) (fun hb2o hb2 => ?_)
  ·
   refine hS.regS [0] [] fun _ => seg [(4, vi 3)] [] [] trivial fun ac wd hS => ?_
   refine wp_ret ?_
   refine pop_block_ret ?_
   refine pop_then_ret ?_
   refine St.retC 0 hS (vi 3) [] trivial fun hw => ?_
   refine ⟨retd (vint ?_), hw.fr0⟩
   all_goals (first | exact lch_no (by simp_all; omega) | exact lch_no (by omega) | exact lch_yes (by simp_all; omega) | exact lch_yes (by omega))
  ·
   refine wp_skip ?_
   refine pop_block ?_
   refine pop_then ?_
   refine hS.regS [0] [] fun _ => seg [(4, vi 0)] [] [] trivial fun ac wd hS => ?_
   refine wp_ret ?_
   refine St.retC 0 hS (vi 0) [] trivial fun hw => ?_
   refine ⟨retd (vint ?_), hw.fr0⟩
   all_goals (first | exact lch_no (by simp_all; omega) | exact lch_no (by omega) | exact lch_yes (by simp_all; omega) | exact lch_yes (by omega))

set_option maxRecDepth 100000 in
set_option maxHeartbeats 1000000 in
theorem ls_next (b : Nat) (F : Nat → Prop) (m : AM) (o_ : Int) (z : Int) (k : Int) (a : Int) (w : World) (hr : (arR b F m).R w) (ho : 0 ≤ o_ ∧ 0 ≤ z ∧ o_ + z ≤ 4294967296) (hk : 0 ≤ k ∧ 8 * k + 8 ≤ z) :
    Calls Tryz.prog 117 #[.agg #[pt b 0, vi o_, vi z], vi k, vi a] w fun e w' => e = .returned (vi (lnx m o_ z k a)) ∧ Fr w w' no no := by
 refine enter (args := [.agg #[pt b 0, vi o_, vi z], vi k, vi a]) (D := no) (A := []) Tryz.func117 rfl 28 rfl [] (WS.startL trivial) fun ac hS => ?_
 refine hS.regS [0, 0] [1, 2] fun ν1 => seg [(3, pt (ν1 0) 0)] [(0, some ((ν1 0), .cells [pt b 0, vi o_, vi z] 51))] [] trivial fun ac wd hS => ?_
 refine hS.regS [0] [1, 2, 3] fun _ => seg [] [(0, none)] [] trivial fun ac wd hS => ?_
 refine wp_seq ?_
 refine hS.regS [0, 0] [1, 2, 3] fun _ => seg [(9, vb ((a : Int) == 0))] [(0, none)] [] trivial fun ac wd hS => ?_
 refine hS.condC ((a : Int) == 0) (fun hb1o hb1 => ?_) (fun hb1o hb1 => ?_)
 ·
  refine wp_region_lit ?_
  refine hS.opsC 4 [0, 0, 0, 20] [] fun _ => seg [(12, .agg #[pt b 0, vi o_, vi z]), (14, vi (8 * k))] [] [.p (fit .i64 (8 * k)), .e (ν1 0), .e (ν1 0), .e (ν1 0)] ⟨fit_i64 (by omega), trivial⟩ fun ac wd hS => ?_
  refine hS.call0 74 #[.agg #[pt b 0, vi o_, vi z], vi (8 * k), vi 8] 15 (vw_Load b F m o_ z (8 * k) 8 _ (Res.keep hr hS.mem.fr) (by first | assumption | omega | (simp_all; done) | (simp_all; omega))) fun ac wd hS => ?_
  refine hS.opsC 4 [0, 0, 0, 0] [] fun _ => seg [(7, vu (vldV m o_ z (8 * k) 8))] [] [] trivial fun ac wd hS => ?_
  refine list_nil ?_
  refine pop_then ?_
  refine hS.regS [0, 0, 0] [] fun _ => seg [(6, vi (IntKind.wrap .i64 (vldV m o_ z (8 * k) 8)))] [] [] trivial fun ac wd hS => ?_
  refine wp_ret ?_
  refine St.retC 0 hS (vi (IntKind.wrap .i64 (vldV m o_ z (8 * k) 8))) [] trivial fun hw => ?_
  refine ⟨retd (vint ?_), hw.fr0⟩
  all_goals (first | exact lnx_0 (by omega) | exact lnx_1 (by omega))
 ·
  refine wp_region_lit ?_
  refine hS.opsC 4 [0, 0, 0, 0] [] fun _ => seg [(21, pt b 0), (22, vi a)] [] [.e (ν1 0)] trivial fun ac wd hS => ?_
  refine hS.call0 33 #[pt b 0, vi a, vi 8] 23 (ar_Load b F m a 8 _ (Res.keep hr hS.mem.fr) ) fun ac wd hS => ?_
  refine hS.opsC 4 [0, 0, 0, 0] [] fun _ => seg [(7, vu (ldV m a 8))] [] [] trivial fun ac wd hS => ?_
  refine list_nil ?_
  refine pop_then ?_
  refine hS.regS [0, 0, 0] [] fun _ => seg [(6, vi (IntKind.wrap .i64 (ldV m a 8)))] [] [] trivial fun ac wd hS => ?_
  refine wp_ret ?_
  refine St.retC 0 hS (vi (IntKind.wrap .i64 (ldV m a 8))) [] trivial fun hw => ?_
  refine ⟨retd (vint ?_), hw.fr0⟩
  all_goals (first | exact lnx_0 (by omega) | exact lnx_1 (by omega))

set_option maxRecDepth 100000 in
set_option maxHeartbeats 1000000 in
theorem ls_join (b : Nat) (F : Nat → Prop) (m : AM) (o_ : Int) (z : Int) (k : Int) (a : Int) (c : Int) (w : World) (hr : (arR b F m).R w) (ho : 0 ≤ o_ ∧ 0 ≤ z ∧ o_ + z ≤ 4294967296) (hk : 0 ≤ k ∧ 8 * k + 8 ≤ z) (hc : -4611686018427387904 ≤ c ∧ c ≤ 4611686018427387904) :
    Calls Tryz.prog 118 #[.agg #[pt b 0, vi o_, vi z], vi k, vi a, vi c] w fun e w' => ∃ (F' : Nat → Prop), e = .returned (.tuple #[]) ∧ (arR b F' (ljM m o_ z k a c)).R w' ∧ Fr w w' F F' := by
 refine enter (args := [.agg #[pt b 0, vi o_, vi z], vi k, vi a, vi c]) (D := F) (A := [arR b F m]) Tryz.func118 rfl 34 rfl [] (WS.startA (r := arR b F m) hr trivial trivial) fun ac hS => ?_
 refine hS.regS [0] [1, 2, 3] fun ν1 => seg [(4, pt (ν1 0) 0)] [(0, some ((ν1 0), .cells [pt b 0, vi o_, vi z] 51))] [] trivial fun ac wd hS => ?_
 refine wp_seq ?_
 refine hS.regS [0, 0] [1, 2, 3, 4] fun _ => seg [(9, vb ((a : Int) == 0))] [(0, none)] [] trivial fun ac wd hS => ?_
 refine hS.condC ((a : Int) == 0) (fun hb1o hb1 => ?_) (fun hb1o hb1 => ?_)
 ·
  have h1 := lj_1 (m := m) (o := o_) (z := z) (k := k) (b := c) (show a = 0 from hb1)
  refine wp_region_lit ?_
  refine hS.opsC 6 [0, 0, 0, 20, 0, 0] [2, 3, 4] fun _ => seg [(11, .agg #[pt b 0, vi o_, vi z]), (13, vi (8 * k)), (15, vu (IntKind.wrap .u64 c))] [(0, none)] [.p (fit .i64 (8 * k)), .e (ν1 0), .e (ν1 0), .e (ν1 0)] ⟨fit_i64 (by omega), trivial⟩ fun ac wd hS => ?_
  refine hS.callC 58 #[.agg #[pt b 0, vi o_, vi z], vi (8 * k), vi 8, vu (IntKind.wrap .u64 c)] (vw_Store b F m o_ z (8 * k) 8 (IntKind.wrap .u64 c) _ (hS.mem.res 0) (by first | assumption | omega | (simp_all; done) | (simp_all; omega))) ?_
  rintro _ wd ⟨F2, rfl, hA, hF⟩
  refine ⟨vi (vstE m o_ z (8 * k) 8), rfl, ?_⟩
  replace hS := (hS.to (hS.mem.stepA 0 rfl hA hF)).put (d := 16) (v := vi (vstE m o_ z (8 * k) 8)) (by decide)
  clear hF
  refine list_nil ?_
  refine pop_then ?_
  refine hS.regS [0, 0] [2, 3, 4] fun _ => seg [(25, vb ((c : Int) != 0))] [(0, none)] [] trivial fun ac wd hS => ?_
  refine hS.condC ((c : Int) != 0) (fun hb3o hb3 => ?_) (fun hb3o hb3 => ?_)
  ·
   have hM := (congrArg (fun q => stM q (c + 8) 8 (IntKind.wrap .u64 a)) h1).trans (lj_4 (show c ≠ 0 from hb3))
   refine wp_region_lit ?_
   refine hS.opsC 7 [0, 0, 0, 0, 20, 0, 0] [] fun _ => seg [(28, pt b 0), (30, vi (c + 8)), (32, vu (IntKind.wrap .u64 a))] [] [.p (fit .i64 (c + 8)), .e (ν1 0)] ⟨fit_i64 (by omega), trivial⟩ fun ac wd hS => ?_
   refine hS.callC 32 #[pt b 0, vi (c + 8), vi 8, vu (IntKind.wrap .u64 a)] (ar_Store b F2 (vstM m o_ z (8 * k) 8 (IntKind.wrap .u64 c)) (c + 8) 8 (IntKind.wrap .u64 a) _ (hS.mem.res 0) ) ?_
   rintro _ wd ⟨F4, rfl, hA, hF⟩
   refine ⟨vi (stE (vstM m o_ z (8 * k) 8 (IntKind.wrap .u64 c)) (c + 8) 8), rfl, ?_⟩
   replace hS := (hS.to (hS.mem.stepA 0 rfl hA hF)).put (d := 33) (v := vi (stE (vstM m o_ z (8 * k) 8 (IntKind.wrap .u64 c)) (c + 8) 8)) (by decide)
   clear hF
   refine list_nil ?_
   refine St.fallC 0 hS (.tuple #[]) [] trivial fun hw => ?_
   refine ⟨F4, retd rfl, (res_eq (r := arR b F4 (stM (vstM m o_ z (8 * k) 8 (IntKind.wrap .u64 c)) (c + 8) 8 (IntKind.wrap .u64 a))) (by exact congrArg _ hM) (hw.res 0)), hw.frA⟩
  ·
   have hM := h1.trans (lj_3 (show c = 0 from hb3))
   refine wp_skip ?_
   refine St.fallC 0 hS (.tuple #[]) [] trivial fun hw => ?_
   refine ⟨F2, retd rfl, (res_eq (r := arR b F2 (vstM m o_ z (8 * k) 8 (IntKind.wrap .u64 c))) (by exact congrArg _ hM) (hw.res 0)), hw.frA⟩
 ·
  have h1 := lj_2 (m := m) (o := o_) (z := z) (k := k) (b := c) (show a ≠ 0 from hb1)
  refine wp_region_lit ?_
  refine hS.opsC 6 [0, 0, 0, 0, 0, 0] [2, 3, 4] fun _ => seg [(19, pt b 0), (20, vi a), (22, vu (IntKind.wrap .u64 c))] [(0, none)] [.e (ν1 0)] trivial fun ac wd hS => ?_
  refine hS.callC 32 #[pt b 0, vi a, vi 8, vu (IntKind.wrap .u64 c)] (ar_Store b F m a 8 (IntKind.wrap .u64 c) _ (hS.mem.res 0) ) ?_
  rintro _ wd ⟨F5, rfl, hA, hF⟩
  refine ⟨vi (stE m a 8), rfl, ?_⟩
  replace hS := (hS.to (hS.mem.stepA 0 rfl hA hF)).put (d := 23) (v := vi (stE m a 8)) (by decide)
  clear hF
  refine list_nil ?_
  refine pop_then ?_
  refine hS.regS [0, 0] [2, 3, 4] fun _ => seg [(25, vb ((c : Int) != 0))] [(0, none)] [] trivial fun ac wd hS => ?_
  refine hS.condC ((c : Int) != 0) (fun hb6o hb6 => ?_) (fun hb6o hb6 => ?_)
  ·
   have hM := (congrArg (fun q => stM q (c + 8) 8 (IntKind.wrap .u64 a)) h1).trans (lj_4 (show c ≠ 0 from hb6))
   refine wp_region_lit ?_
   refine hS.opsC 7 [0, 0, 0, 0, 20, 0, 0] [] fun _ => seg [(28, pt b 0), (30, vi (c + 8)), (32, vu (IntKind.wrap .u64 a))] [] [.p (fit .i64 (c + 8)), .e (ν1 0)] ⟨fit_i64 (by omega), trivial⟩ fun ac wd hS => ?_
   refine hS.callC 32 #[pt b 0, vi (c + 8), vi 8, vu (IntKind.wrap .u64 a)] (ar_Store b F5 (stM m a 8 (IntKind.wrap .u64 c)) (c + 8) 8 (IntKind.wrap .u64 a) _ (hS.mem.res 0) ) ?_
   rintro _ wd ⟨F7, rfl, hA, hF⟩
   refine ⟨vi (stE (stM m a 8 (IntKind.wrap .u64 c)) (c + 8) 8), rfl, ?_⟩
   replace hS := (hS.to (hS.mem.stepA 0 rfl hA hF)).put (d := 33) (v := vi (stE (stM m a 8 (IntKind.wrap .u64 c)) (c + 8) 8)) (by decide)
   clear hF
   refine list_nil ?_
   refine St.fallC 0 hS (.tuple #[]) [] trivial fun hw => ?_
   refine ⟨F7, retd rfl, (res_eq (r := arR b F7 (stM (stM m a 8 (IntKind.wrap .u64 c)) (c + 8) 8 (IntKind.wrap .u64 a))) (by exact congrArg _ hM) (hw.res 0)), hw.frA⟩
  ·
   have hM := h1.trans (lj_3 (show c = 0 from hb6))
   refine wp_skip ?_
   refine St.fallC 0 hS (.tuple #[]) [] trivial fun hw => ?_
   refine ⟨F5, retd rfl, (res_eq (r := arR b F5 (stM m a 8 (IntKind.wrap .u64 c))) (by exact congrArg _ hM) (hw.res 0)), hw.frA⟩

set_option maxRecDepth 100000 in
set_option maxHeartbeats 1000000 in
theorem ls_behind (b : Nat) (F : Nat → Prop) (m : AM) (o_ : Int) (z : Int) (k : Int) (a : Int) (L : List Int) (w : World) (hr : (arR b F m).R w) (ho : 0 ≤ o_ ∧ 0 ≤ z ∧ o_ + z ≤ 4294967296) (hk : 0 ≤ k ∧ 8 * k + 8 ≤ z) (hch : ChainL m o_ z k L) (hps : ∀ a, a ∈ L → 0 < a ∧ a ≤ 4611686018427387904) :
    Calls Tryz.prog 116 #[.agg #[pt b 0, vi o_, vi z], vi k, vi a] w fun e w' => e = .returned (vi (prevL L (cntL L a))) ∧ Fr w w' no no := by
 refine enter (args := [.agg #[pt b 0, vi o_, vi z], vi k, vi a]) (D := no) (A := []) Tryz.func116 rfl 25 rfl [] (WS.startL trivial) fun ac hS => ?_
 refine hS.regS [0, 0] [1, 2] fun ν1 => seg [(3, pt (ν1 0) 0)] [(0, some ((ν1 0), .cells [pt b 0, vi o_, vi z] 51))] [] trivial fun ac wd hS => ?_
 refine hS.regS [0] [1, 2, 3] fun _ => seg [(7, vi 0)] [(0, none)] [] trivial fun ac wd hS => ?_
 refine wp_seq ?_
 refine wp_region_seq ?_
 refine hS.opsC 2 [0, 0] [1, 2, 3, 7] fun _ => seg [(9, .agg #[pt b 0, vi o_, vi z]), (10, vi k)] [(0, none)] [.e (ν1 0), .e (ν1 0), .e (ν1 0)] trivial fun ac wd hS => ?_
 refine hS.call0 117 #[.agg #[pt b 0, vi o_, vi z], vi k, vi 0] 11 (ls_next b F m o_ z k 0 _ (Res.keep hr hS.mem.fr) (by first | assumption | omega | (simp_all; done) | (simp_all; omega)) (by first | assumption | omega | (simp_all; done) | (simp_all; omega))) fun ac wd hS => ?_
 refine hS.opsC 1 [0] [1, 2, 3, 7] fun _ => seg [(8, vi (lnx m o_ z k 0))] [(0, none)] [] trivial fun ac wd hS => ?_
 refine list_nil_seq ?_
 refine wp_block ?_
 refine St.loopC (σ := Int × Int × Nat) (fun (x : Int × Int × Nat) => match x with | (x7, x8, j) => ⟨[(1, [], vi k), (2, [], vi a), (3, [], pt (ν1 0) 0), (7, [], vi x7), (8, [], vi x8)], [((ν1 0), .cells [pt b 0, vi o_, vi z] 51)], [], (LtUp L a j) ∧ (x8 = List.getD L j 0) ∧ (x7 = prevL L j) ∧ True, L.length - j⟩) (0, (lnx m o_ z k 0), 0) ⟨(by first | exact ltUp_zero L a | exact chain_0 hch | rfl), (by first | exact ltUp_zero L a | exact chain_0 hch | rfl), (by first | exact ltUp_zero L a | exact chain_0 hch | rfl), trivial⟩ hS ?_
 clear hS
 rintro ⟨x7, x8, j⟩ ⟨i0, i1, i2, -⟩ ac wd hS
 replace i0 : LtUp L a j := i0
 replace i1 : x8 = List.getD L j 0 := i1
 replace i2 : x7 = prevL L j := i2
 have hgp := getD_pos hps j
 have hout : L.length ≤ j → List.getD L j 0 = 0 := fun q => getD_out0 q
 refine wp_seq ?_
 refine hS.regS [0, 0, 0, 3, 3, 3, 80] [1, 2, 3, 7, 8] fun _ => seg [(18, vb (((x8 : Int) != 0) && (decide ((x8 : Int) < a))))] [(0, none)] [] trivial fun ac wd hS => ?_
 refine hS.condC (((x8 : Int) != 0) && (decide ((x8 : Int) < a))) (fun hb1o hb1 => ?_) (fun hb1o hb1 => ?_)
 ·
  refine wp_skip ?_
  refine pop_then ?_
  refine wp_seq ?_
  refine wp_block ?_
  refine hS.regC [0, 0] [1, 2, 3, 8] fun _ => seg [(7, vi x8)] [(0, none)] [] trivial fun ac wd hS => ?_
  refine pop_block ?_
  refine pop_then ?_
  refine wp_region_lit ?_
  refine hS.opsC 3 [0, 0, 0] [1, 2, 3, 7, 8] fun _ => seg [(19, .agg #[pt b 0, vi o_, vi z]), (20, vi k), (21, vi x8)] [(0, none)] [.e (ν1 0), .e (ν1 0), .e (ν1 0)] trivial fun ac wd hS => ?_
  refine hS.call0 117 #[.agg #[pt b 0, vi o_, vi z], vi k, vi x8] 22 (ls_next b F m o_ z k x8 _ (Res.keep hr hS.mem.fr) (by first | assumption | omega | (simp_all; done) | (simp_all; omega)) (by first | assumption | omega | (simp_all; done) | (simp_all; omega))) fun ac wd hS => ?_
  refine hS.opsC 1 [0] [1, 2, 3, 7] fun _ => seg [(8, vi (lnx m o_ z k x8))] [(0, none)] [] trivial fun ac wd hS => ?_
  refine list_nil ?_
  exact pop_then (hS.next (x8, (lnx m o_ z k x8), (j + 1)) ⟨(by exact ltUp_step i0 (by have := i0.1; omega) (by omega)), (by rw [i1]; exact chain_at hch (by have := i0.1; omega)), (by exact i1), trivial⟩ (by dsimp only; have := i0.1; omega))
 ·
  refine wp_exit ?_
  refine pop_then_exit ?_
  refine pop_then_exit ?_
  refine pop_block_hit ?_
  refine pop_then ?_
  refine hS.regS [0, 0] [] fun _ => seg [(6, vi x7)] [] [] trivial fun ac wd hS => ?_
  refine wp_ret ?_
  refine St.retC 0 hS (vi x7) [] trivial fun hw => ?_
  refine ⟨retd (vint ?_), hw.fr0⟩
  all_goals ((have e := behind_at hps i0 (by rw [← i1]; omega); rw [i2, e]))

set_option maxRecDepth 100000 in
set_option maxHeartbeats 1000000 in
theorem ls_Add (b : Nat) (F : Nat → Prop) (m : AM) (o_ : Int) (z : Int) (k : Int) (a : Int) (L : List Int) (w : World) (hr : (arR b F m).R w) (ho : 0 ≤ o_ ∧ 0 ≤ z ∧ o_ + z ≤ 4294967296) (hk : 0 ≤ k ∧ 8 * k + 8 ≤ z) (hch : ChainL m o_ z k L) (hps : ∀ a, a ∈ L → 0 < a ∧ a ≤ 4611686018427387904) (ha : a ≤ 4611686018427387904) :
    Calls Tryz.prog 73 #[.agg #[pt b 0, vi o_, vi z], vi k, vi a] w fun e w' => ∃ (F' : Nat → Prop), e = .returned (vi (lsaE m L a)) ∧ (arR b F' (lsaM m o_ z k L a)).R w' ∧ Fr w w' F F' := by
 have hpp := prevL_pos hps (cntL L a)
 have hgp := getD_pos hps (cntL L a)
 have hnx := chain_c (at_ := a) hch
 refine enter (args := [.agg #[pt b 0, vi o_, vi z], vi k, vi a]) (D := F) (A := [arR b F m]) Tryz.func73 rfl 52 rfl [] (WS.startA (r := arR b F m) hr trivial trivial) fun ac hS => ?_
 refine hS.regS [0, 0] [1, 2] fun ν1 => seg [(3, pt (ν1 0) 0)] [(0, some ((ν1 0), .cells [pt b 0, vi o_, vi z] 51))] [] trivial fun ac wd hS => ?_
 refine wp_seq ?_
 refine wp_region_seq ?_
 refine hS.opsC 2 [0, 0] [1, 2, 3] fun _ => seg [(12, .agg #[pt b 0, vi o_, vi z]), (13, vi k)] [(0, none)] [.e (ν1 0), .e (ν1 0), .e (ν1 0)] trivial fun ac wd hS => ?_
 refine hS.call0 115 #[.agg #[pt b 0, vi o_, vi z], vi k] 14 (ls_check b o_ z k _  (by first | assumption | omega | (simp_all; done) | (simp_all; omega))) fun ac wd hS => ?_
 replace hS := hS.fix 14 (vi 0) (show (vi (lchE z k) : Value) = vi 0 from (vint (by exact (lch_yes (by omega)).symm)))
 refine hS.opsC 1 [0] [1, 2, 3] fun _ => seg [(7, vi 0)] [(0, none)] [] trivial fun ac wd hS => ?_
 refine list_nil_seq ?_
 refine hS.regS [0, 0] [1, 2, 3, 7] fun _ => seg [(16, vb false)] [(0, none)] [] trivial fun ac wd hS => ?_
 refine hS.condF ?_
 refine wp_skip ?_
 refine pop_then ?_
 refine wp_seq ?_
 refine hS.regS [0, 0] [1, 2, 3] fun _ => seg [(19, vb (decide ((a : Int) < 1)))] [(0, none)] [] trivial fun ac wd hS => ?_
 refine hS.condC (decide ((a : Int) < 1)) (fun hb1o hb1 => ?_) (fun hb1o hb1 => ?_)
 ·
  have hQ := lsa_1 (m := m) (o := o_) (z := z) (k := k) (L := L) (at_ := a) (by omega)
  refine hS.regS [0] [] fun _ => seg [(6, vi 2)] [] [] trivial fun ac wd hS => ?_
  refine wp_ret ?_
  refine pop_then_ret ?_
  refine St.retC 0 hS (vi 2) [] trivial fun hw => ?_
  refine ⟨F, retd (vint ?_), (res_eq (r := arR b F m) (by first | exact congrArg _ hQ.2 | (rw [hnx]; exact congrArg _ hQ.2)) (hw.res 0)), hw.frA⟩
  all_goals (exact hQ.1)
 ·
  have hn1 : ¬ a < 1 := by omega
  refine wp_skip ?_
  refine pop_then ?_
  refine wp_seq ?_
  refine wp_region_seq ?_
  refine hS.opsC 4 [0, 0, 0, 0] [1, 2, 3] fun _ => seg [(23, pt b 0), (24, vi a)] [(0, none)] [.e (ν1 0)] trivial fun ac wd hS => ?_
  refine hS.call0 52 #[pt b 0, vi a, vi 16] 25 (ar_Bytes b F m a 16 _ (hS.mem.res 0) ) fun ac wd hS => ?_
  refine hS.opsC 5 [0, 0, 0, 0, 0] [1, 2, 3] fun _ => seg [(9, vi (chkE m a 16))] [(0, none)] [] trivial fun ac wd hS => ?_
  refine list_nil_seq ?_
  refine hS.regS [0, 0] [1, 2, 3, 9] fun _ => seg [(29, vb (((chkE m a 16) : Int) != 0))] [(0, none)] [] trivial fun ac wd hS => ?_
  refine hS.condC (((chkE m a 16) : Int) != 0) (fun hb2o hb2 => ?_) (fun hb2o hb2 => ?_)
  ·
   have hQ := lsa_2 (o := o_) (z := z) (k := k) (L := L) hn1 hb2
   refine hS.regS [0, 0] [] fun _ => seg [(6, vi (chkE m a 16))] [] [] trivial fun ac wd hS => ?_
   refine wp_ret ?_
   refine pop_then_ret ?_
   refine St.retC 0 hS (vi (chkE m a 16)) [] trivial fun hw => ?_
   refine ⟨F, retd (vint ?_), (res_eq (r := arR b F m) (by first | exact congrArg _ hQ.2 | (rw [hnx]; exact congrArg _ hQ.2)) (hw.res 0)), hw.frA⟩
   all_goals (exact hQ.1)
  ·
   have hn2 : ¬ chkE m a 16 ≠ 0 := fun q => q hb2
   refine wp_skip ?_
   refine pop_then ?_
   refine wp_region_seq ?_
   refine hS.opsC 3 [0, 0, 0] [1, 2, 3] fun _ => seg [(31, .agg #[pt b 0, vi o_, vi z]), (32, vi k), (33, vi a)] [(0, none)] [.e (ν1 0), .e (ν1 0), .e (ν1 0)] trivial fun ac wd hS => ?_
   refine hS.call0 116 #[.agg #[pt b 0, vi o_, vi z], vi k, vi a] 34 (ls_behind b F m o_ z k a L _ (hS.mem.res 0) (by first | assumption | omega | (simp_all; done) | (simp_all; omega)) (by first | assumption | omega | (simp_all; done) | (simp_all; omega)) (by first | assumption | omega | (simp_all; done) | (simp_all; omega)) (by first | assumption | omega | (simp_all; done) | (simp_all; omega))) fun ac wd hS => ?_
   refine hS.opsC 1 [0] [1, 2, 3] fun _ => seg [(10, vi (prevL L (cntL L a)))] [(0, none)] [] trivial fun ac wd hS => ?_
   refine list_nil_seq ?_
   refine wp_region_seq ?_
   refine hS.opsC 3 [0, 0, 0] [1, 2, 3, 10] fun _ => seg [(35, .agg #[pt b 0, vi o_, vi z]), (36, vi k), (37, vi (prevL L (cntL L a)))] [(0, none)] [.e (ν1 0), .e (ν1 0), .e (ν1 0)] trivial fun ac wd hS => ?_
   refine hS.call0 117 #[.agg #[pt b 0, vi o_, vi z], vi k, vi (prevL L (cntL L a))] 38 (ls_next b F m o_ z k (prevL L (cntL L a)) _ (hS.mem.res 0) (by first | assumption | omega | (simp_all; done) | (simp_all; omega)) (by first | assumption | omega | (simp_all; done) | (simp_all; omega))) fun ac wd hS => ?_
   refine hS.opsC 1 [0] [1, 2, 3, 10] fun _ => seg [(11, vi (lnx m o_ z k (prevL L (cntL L a))))] [(0, none)] [] trivial fun ac wd hS => ?_
   refine list_nil_seq ?_
   refine wp_seq ?_
   refine hS.regS [0, 0, 0] [1, 2, 3, 10, 11] fun _ => seg [(41, vb (((lnx m o_ z k (prevL L (cntL L a))) : Int) == a))] [(0, none)] [] trivial fun ac wd hS => ?_
   refine hS.condC (((lnx m o_ z k (prevL L (cntL L a))) : Int) == a) (fun hb3o hb3 => ?_) (fun hb3o hb3 => ?_)
   ·
    have hQ := lsa_3 (o := o_) (z := z) (k := k) hn1 hn2 (hnx.symm.trans hb3)
    refine hS.regS [0] [] fun _ => seg [(6, vi 9)] [] [] trivial fun ac wd hS => ?_
    refine wp_ret ?_
    refine pop_then_ret ?_
    refine St.retC 0 hS (vi 9) [] trivial fun hw => ?_
    refine ⟨F, retd (vint ?_), (res_eq (r := arR b F m) (by first | exact congrArg _ hQ.2 | (rw [hnx]; exact congrArg _ hQ.2)) (hw.res 0)), hw.frA⟩
    all_goals (exact hQ.1)
   ·
    have hQ := lsa_4 (o := o_) (z := z) (k := k) hn1 hn2 (fun q => hb3 (hnx.trans q))
    refine wp_skip ?_
    refine pop_then ?_
    refine wp_region_seq ?_
    refine hS.opsC 4 [0, 0, 0, 0] [1, 2, 3, 10] fun _ => seg [(42, .agg #[pt b 0, vi o_, vi z]), (43, vi k), (44, vi a), (45, vi (lnx m o_ z k (prevL L (cntL L a))))] [(0, none)] [.e (ν1 0), .e (ν1 0), .e (ν1 0)] trivial fun ac wd hS => ?_
    refine hS.callC 118 #[.agg #[pt b 0, vi o_, vi z], vi k, vi a, vi (lnx m o_ z k (prevL L (cntL L a)))] (ls_join b F m o_ z k a (lnx m o_ z k (prevL L (cntL L a))) _ (hS.mem.res 0) (by first | assumption | omega | (simp_all; done) | (simp_all; omega)) (by first | assumption | omega | (simp_all; done) | (simp_all; omega)) (by first | omega | (rw [hnx]; omega))) ?_
    rintro _ wd ⟨F4, rfl, hA, hF⟩
    refine ⟨.tuple #[], rfl, ?_⟩
    replace hS := (hS.to (hS.mem.stepA 0 rfl hA hF)).put (d := 46) (v := .tuple #[]) (by decide)
    clear hF
    refine list_nil_seq ?_
    refine wp_region_seq ?_
    refine hS.opsC 4 [0, 0, 0, 0] [] fun _ => seg [(47, .agg #[pt b 0, vi o_, vi z]), (48, vi k), (49, vi (prevL L (cntL L a))), (50, vi a)] [] [.e (ν1 0), .e (ν1 0), .e (ν1 0)] trivial fun ac wd hS => ?_
    refine hS.callC 118 #[.agg #[pt b 0, vi o_, vi z], vi k, vi (prevL L (cntL L a)), vi a] (ls_join b F4 (ljM m o_ z k a (lnx m o_ z k (prevL L (cntL L a)))) o_ z k (prevL L (cntL L a)) a _ (hS.mem.res 0) (by first | assumption | omega | (simp_all; done) | (simp_all; omega)) (by first | assumption | omega | (simp_all; done) | (simp_all; omega)) (by first | omega | (rw [hnx]; omega))) ?_
    rintro _ wd ⟨F5, rfl, hA, hF⟩
    refine ⟨.tuple #[], rfl, ?_⟩
    replace hS := (hS.to (hS.mem.stepA 0 rfl hA hF)).put (d := 51) (v := .tuple #[]) (by decide)
    clear hF
    refine list_nil_seq ?_
    refine hS.regS [0] [] fun _ => seg [(6, vi 0)] [] [] trivial fun ac wd hS => ?_
    refine wp_ret ?_
    refine St.retC 0 hS (vi 0) [] trivial fun hw => ?_
    refine ⟨F5, retd (vint ?_), (res_eq (r := arR b F5 (ljM (ljM m o_ z k a (lnx m o_ z k (prevL L (cntL L a)))) o_ z k (prevL L (cntL L a)) a)) (by first | exact congrArg _ hQ.2 | (rw [hnx]; exact congrArg _ hQ.2)) (hw.res 0)), hw.frA⟩
    all_goals (exact hQ.1)

set_option maxRecDepth 100000 in
set_option maxHeartbeats 1000000 in
theorem ls_Remove (b : Nat) (F : Nat → Prop) (m : AM) (o_ : Int) (z : Int) (k : Int) (a : Int) (L : List Int) (w : World) (hr : (arR b F m).R w) (ho : 0 ≤ o_ ∧ 0 ≤ z ∧ o_ + z ≤ 4294967296) (hk : 0 ≤ k ∧ 8 * k + 8 ≤ z) (hch : ChainL m o_ z k L) (hps : ∀ a, a ∈ L → 0 < a ∧ a ≤ 4611686018427387904) :
    Calls Tryz.prog 72 #[.agg #[pt b 0, vi o_, vi z], vi k, vi a] w fun e w' => ∃ (F' : Nat → Prop), e = .returned (vi (lsrE L a)) ∧ (arR b F' (lsrM m o_ z k L a)).R w' ∧ Fr w w' F F' := by
 have hpp := prevL_pos hps (cntL L a)
 have hgp := getD_pos hps (cntL L a)
 have hnx := chain_c (at_ := a) hch
 have hgp2 := getD_pos hps (cntL L a + 1)
 refine enter (args := [.agg #[pt b 0, vi o_, vi z], vi k, vi a]) (D := F) (A := [arR b F m]) Tryz.func72 rfl 37 rfl [] (WS.startA (r := arR b F m) hr trivial trivial) fun ac hS => ?_
 refine hS.regS [0, 0] [1, 2] fun ν1 => seg [(3, pt (ν1 0) 0)] [(0, some ((ν1 0), .cells [pt b 0, vi o_, vi z] 51))] [] trivial fun ac wd hS => ?_
 refine wp_seq ?_
 refine wp_region_seq ?_
 refine hS.opsC 2 [0, 0] [1, 2, 3] fun _ => seg [(9, .agg #[pt b 0, vi o_, vi z]), (10, vi k)] [(0, none)] [.e (ν1 0), .e (ν1 0), .e (ν1 0)] trivial fun ac wd hS => ?_
 refine hS.call0 115 #[.agg #[pt b 0, vi o_, vi z], vi k] 11 (ls_check b o_ z k _  (by first | assumption | omega | (simp_all; done) | (simp_all; omega))) fun ac wd hS => ?_
 replace hS := hS.fix 11 (vi 0) (show (vi (lchE z k) : Value) = vi 0 from (vint (by exact (lch_yes (by omega)).symm)))
 refine hS.opsC 1 [0] [1, 2, 3] fun _ => seg [(7, vi 0)] [(0, none)] [] trivial fun ac wd hS => ?_
 refine list_nil_seq ?_
 refine hS.regS [0, 0] [1, 2, 3, 7] fun _ => seg [(13, vb false)] [(0, none)] [] trivial fun ac wd hS => ?_
 refine hS.condF ?_
 refine wp_skip ?_
 refine pop_then ?_
 refine wp_region_seq ?_
 refine hS.opsC 3 [0, 0, 0] [1, 2, 3] fun _ => seg [(15, .agg #[pt b 0, vi o_, vi z]), (16, vi k), (17, vi a)] [(0, none)] [.e (ν1 0), .e (ν1 0), .e (ν1 0)] trivial fun ac wd hS => ?_
 refine hS.call0 116 #[.agg #[pt b 0, vi o_, vi z], vi k, vi a] 18 (ls_behind b F m o_ z k a L _ (hS.mem.res 0) (by first | assumption | omega | (simp_all; done) | (simp_all; omega)) (by first | assumption | omega | (simp_all; done) | (simp_all; omega)) (by first | assumption | omega | (simp_all; done) | (simp_all; omega)) (by first | assumption | omega | (simp_all; done) | (simp_all; omega))) fun ac wd hS => ?_
 refine hS.opsC 1 [0] [1, 2, 3] fun _ => seg [(8, vi (prevL L (cntL L a)))] [(0, none)] [] trivial fun ac wd hS => ?_
 refine list_nil_seq ?_
 refine wp_seq ?_
 refine wp_region_seq ?_
 refine hS.opsC 3 [0, 0, 0] [1, 2, 3, 8] fun _ => seg [(21, vb (decide ((a : Int) < 1)))] [(0, none)] [] trivial fun ac wd hS => ?_
 rcases Bool.eq_false_or_eq_true (decide ((a : Int) < 1)) with hg1o | hg1o
 ·
  have hg1 := nrm hg1o
  have hQ := lsr_1 (m := m) (o := o_) (z := z) (k := k) (L := L) (at_ := a) (.inl (by omega))
  replace hS := hS.fix 21 (vb true) (congrArg Value.bool hg1o)
  refine hS.opsC 7 [2, 2, 2, 2, 2, 2, 70] [1, 2, 3, 8] fun _ => seg [(28, vb true)] [(0, none)] [.t true, .t true, .t true, .t true, .t true, .t true, .t true] trivial fun ac wd hS => ?_
  refine list_nil_seq ?_
  refine hS.condT ?_
  refine hS.regS [0] [] fun _ => seg [(6, vi 8)] [] [] trivial fun ac wd hS => ?_
  refine wp_ret ?_
  refine pop_then_ret ?_
  refine St.retC 0 hS (vi 8) [] trivial fun hw => ?_
  refine ⟨F, retd (vint ?_), (res_eq (r := arR b F m) (by first | exact congrArg _ hQ.2 | (rw [hn3]; exact congrArg _ hQ.2)) (hw.res 0)), hw.frA⟩
  all_goals (exact hQ.1)
 ·
  have hg1 := nrm hg1o
  have hn1 : ¬ a < 1 := by omega
  replace hS := hS.fix 21 (vb false) (congrArg Value.bool hg1o)
  refine hS.opsC 3 [1, 1, 1] [1, 2, 3, 8, 21] fun _ => seg [(22, .agg #[pt b 0, vi o_, vi z]), (23, vi k), (24, vi (prevL L (cntL L a)))] [(0, none)] [.t false, .t false, .t false, .e (ν1 0), .e (ν1 0), .e (ν1 0)] trivial fun ac wd hS => ?_
  refine hS.callG false 117 #[.agg #[pt b 0, vi o_, vi z], vi k, vi (prevL L (cntL L a))] (ls_next b F m o_ z k (prevL L (cntL L a)) _ (hS.mem.res 0) (by first | assumption | omega | (simp_all; done) | (simp_all; omega)) (by first | assumption | omega | (simp_all; done) | (simp_all; omega))) ?_
  rintro _ wd ⟨rfl, hF⟩
  refine ⟨vi (lnx m o_ z k (prevL L (cntL L a))), rfl, ?_⟩
  replace hS := (hS.to (hS.mem.keep0 hF)).put (d := 25) (v := vi (lnx m o_ z k (prevL L (cntL L a)))) (by decide)
  clear hF
  refine hS.opsC 3 [1, 1, 60] [1, 2, 3, 8] fun _ => seg [(28, vb (((lnx m o_ z k (prevL L (cntL L a))) : Int) != a))] [(0, none)] [.t false, .t false, .t false] trivial fun ac wd hS => ?_
  refine list_nil_seq ?_
  refine hS.condC (((lnx m o_ z k (prevL L (cntL L a))) : Int) != a) (fun hb2o hb2 => ?_) (fun hb2o hb2 => ?_)
  ·
   have hQ := lsr_1 (m := m) (o := o_) (z := z) (k := k) (L := L) (at_ := a) (.inr (fun q => hb2 (hnx.trans q)))
   refine hS.regS [0] [] fun _ => seg [(6, vi 8)] [] [] trivial fun ac wd hS => ?_
   refine wp_ret ?_
   refine pop_then_ret ?_
   refine St.retC 0 hS (vi 8) [] trivial fun hw => ?_
   refine ⟨F, retd (vint ?_), (res_eq (r := arR b F m) (by first | exact congrArg _ hQ.2 | (rw [hn3]; exact congrArg _ hQ.2)) (hw.res 0)), hw.frA⟩
   all_goals (exact hQ.1)
  ·
   have hn2 : List.getD L (cntL L a) 0 = a := hnx.symm.trans hb2
   have hcl : cntL L a < L.length := by (rcases Nat.lt_or_ge (cntL L a) L.length with q | q; exact q; (rw [getD_out0 q] at hn2; omega))
   have hn3 := chain_at hch hcl
   rw [hn2] at hn3
   have hQ := lsr_2 (m := m) (o := o_) (z := z) (k := k) (L := L) (at_ := a) (by omega)
   refine wp_skip ?_
   refine pop_then ?_
   refine St.ordBeginS [(0, 1), (1, 1), (2, 1), (3, 1), (4, 1), (5, 1), (6, 0), (7, 0)] [((ν1 0), .cells [pt b 0, vi o_, vi z] 51)] [0] hS fun wd hS => ?_
   have hap := hS.mem.pairs (Hf := [((ν1 0), .cells [pt b 0, vi o_, vi z] 51)]) (l := [0])
   refine St.ordF [0, 0, 0, 0, 0, 0] [0, 1, 2, 3, 4, 5] [] (rest := [(6, 0), (7, 0)]) hS hap <| segF [(29, .agg #[pt b 0, vi o_, vi z]), (30, vi k), (31, vi (prevL L (cntL L a))), (32, .agg #[pt b 0, vi o_, vi z]), (33, vi k), (34, vi a)] [.e (ν1 0), .e (ν1 0), .e (ν1 0), .e (ν1 0), .e (ν1 0), .e (ν1 0)] trivial fun ac hS => ?_
   refine hS.ordC 6 117 #[.agg #[pt b 0, vi o_, vi z], vi k, vi a] (ls_next b F m o_ z k a _ (hS.mem.res 0) (by first | assumption | omega | (simp_all; done) | (simp_all; omega)) (by first | assumption | omega | (simp_all; done) | (simp_all; omega))) ?_
   rintro _ wd ⟨rfl, hF⟩
   refine ⟨vi (lnx m o_ z k a), rfl, ?_⟩
   replace hS := (hS.to (hS.mem.keep0 hF)).put (d := 35) (v := vi (lnx m o_ z k a)) (by decide)
   clear hF
   refine hS.ordV (l := [0]) ?_
   refine hS.ordC 7 118 #[.agg #[pt b 0, vi o_, vi z], vi k, vi (prevL L (cntL L a)), vi (lnx m o_ z k a)] (ls_join b F m o_ z k (prevL L (cntL L a)) (lnx m o_ z k a) _ (hS.mem.res 0) (by first | assumption | omega | (simp_all; done) | (simp_all; omega)) (by first | assumption | omega | (simp_all; done) | (simp_all; omega)) (by rw [hn3]; omega)) ?_
   rintro _ wd ⟨F3, rfl, hA, hF⟩
   refine ⟨.tuple #[], rfl, ?_⟩
   replace hS := (hS.to (hS.mem.stepA 0 rfl hA hF)).put (d := 36) (v := .tuple #[]) (by decide)
   clear hF
   refine hS.ordV (l := [0]) ?_
   refine ord_nil ?_
   refine hS.regS [0] [] fun _ => seg [(6, vi 0)] [] [] trivial fun ac wd hS => ?_
   refine wp_ret ?_
   refine St.retC 0 hS (vi 0) [] trivial fun hw => ?_
   refine ⟨F3, retd (vint ?_), (res_eq (r := arR b F3 (ljM m o_ z k (prevL L (cntL L a)) (lnx m o_ z k a))) (by first | exact congrArg _ hQ.2 | (rw [hn3]; exact congrArg _ hQ.2)) (hw.res 0)), hw.frA⟩
   all_goals (exact hQ.1)

set_option maxRecDepth 100000 in
set_option maxHeartbeats 1000000 in
theorem ls_First (b : Nat) (F : Nat → Prop) (m : AM) (o_ : Int) (z : Int) (k : Int) (L : List Int) (w : World) (hr : (arR b F m).R w) (ho : 0 ≤ o_ ∧ 0 ≤ z ∧ o_ + z ≤ 4294967296) (hk : 0 ≤ k ∧ 8 * k + 8 ≤ z) (hch : ChainL m o_ z k L) (hps : ∀ a, a ∈ L → 0 < a ∧ a ≤ 4611686018427387904) :
    Calls Tryz.prog 114 #[.agg #[pt b 0, vi o_, vi z], vi k] w fun e w' => e = .returned (.tuple #[vi (List.getD L 0 0), vb ((List.getD L 0 0 : Int) != 0)]) ∧ Fr w w' no no := by
 have h0 := chain_0 hch
 refine enter (args := [.agg #[pt b 0, vi o_, vi z], vi k]) (D := no) (A := []) Tryz.func114 rfl 17 rfl [] (WS.startL trivial) fun ac hS => ?_
 refine hS.regS [0, 0, 0] [1] fun ν1 => seg [(2, pt (ν1 0) 0)] [(0, some ((ν1 0), .cells [pt b 0, vi o_, vi z] 51))] [] trivial fun ac wd hS => ?_
 refine wp_seq ?_
 refine wp_region_seq ?_
 refine hS.opsC 2 [0, 0] [1, 2] fun _ => seg [(7, .agg #[pt b 0, vi o_, vi z]), (8, vi k)] [(0, none)] [.e (ν1 0), .e (ν1 0), .e (ν1 0)] trivial fun ac wd hS => ?_
 refine hS.call0 115 #[.agg #[pt b 0, vi o_, vi z], vi k] 9 (ls_check b o_ z k _  (by first | assumption | omega | (simp_all; done) | (simp_all; omega))) fun ac wd hS => ?_
 replace hS := hS.fix 9 (vi 0) (show (vi (lchE z k) : Value) = vi 0 from (vint (by exact (lch_yes (by omega)).symm)))
 refine hS.opsC 1 [0] [1, 2] fun _ => seg [(10, vb false)] [(0, none)] [] trivial fun ac wd hS => ?_
 refine list_nil_seq ?_
 refine hS.condF ?_
 refine wp_skip ?_
 refine pop_then ?_
 refine wp_region_seq ?_
 refine hS.opsC 2 [0, 0] [] fun _ => seg [(11, .agg #[pt b 0, vi o_, vi z]), (12, vi k)] [] [.e (ν1 0), .e (ν1 0), .e (ν1 0)] trivial fun ac wd hS => ?_
 refine hS.call0 117 #[.agg #[pt b 0, vi o_, vi z], vi k, vi 0] 13 (ls_next b F m o_ z k 0 _ (Res.keep hr hS.mem.fr) (by first | assumption | omega | (simp_all; done) | (simp_all; omega)) (by first | assumption | omega | (simp_all; done) | (simp_all; omega))) fun ac wd hS => ?_
 refine hS.opsC 1 [0] [] fun _ => seg [(6, vi (lnx m o_ z k 0))] [] [] trivial fun ac wd hS => ?_
 refine list_nil_seq ?_
 refine hS.regS [0, 0, 0, 0, 0] [] fun _ => seg [(4, vi (lnx m o_ z k 0)), (5, vb (((lnx m o_ z k 0) : Int) != 0))] [] [] trivial fun ac wd hS => ?_
 refine wp_ret ?_
 refine St.retC 0 hS (.tuple #[vi (lnx m o_ z k 0), vb (((lnx m o_ z k 0) : Int) != 0)]) [] trivial fun hw => ?_
 refine ⟨retd (tuple2 (vint ?_) (vbool ?_)), hw.fr0⟩
 all_goals (first | exact h0 | (rw [h0]))

end Go.Proofs.YtojjkjedcafpeaaGreatDoor.K
