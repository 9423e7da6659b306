/-
  Walks, printed by w2.py.
-/
import Derived.Test.YtindbpffbjhfaaaDoorGa
import Derived.Test.YtindbpffbjhfaaaDoorProg
namespace Go.Proofs.YtindbpffbjhfaaaDoor.K
set_option linter.unusedVariables false
set_option linter.unusedSimpArgs false

set_option maxRecDepth 100000 in
set_option maxHeartbeats 1000000 in
theorem size_Span (r : Int) (w : World) :
    Calls Tryd.prog 133 #[vi r] w fun e w' => e = .returned (vi (spanV r)) ∧ Fr w w' no no := by
 refine enter (args := [vi r]) (D := no) (A := []) Tryd.func133 rfl 11 rfl [] (WS.startL trivial) fun ac hS => ?_
 refine hS.regS [0] [0] fun _ => seg [] [] [] trivial fun ac wd hS => ?_
 refine wp_seq ?_
 refine hS.regS [0, 0, 0, 3, 3, 80] [0] fun _ => seg [(8, vb ((decide ((r : Int) < 0)) || (decide ((10 : Int) < r))))] [] [] trivial fun ac wd hS => ?_
 refine hS.condC ((decide ((r : Int) < 0)) || (decide ((10 : Int) < r))) (fun hb1o hb1 => ?_) (fun hb1o hb1 => ?_)
 ·
  refine hS.regS [0] [] fun _ => seg [(2, vi 0)] [] [] trivial fun ac wd hS => ?_
  refine wp_ret ?_
  refine pop_then_ret ?_
  refine St.retC 0 hS (vi 0) [] trivial fun hw => ?_
  refine ⟨retd (vint ?_), hw.fr0⟩
  all_goals (first | exact span_eq (by omega) (by omega) | (rw [spanV, if_neg (by simp [z_spanOk]; omega)]))
 ·
  refine wp_skip ?_
  refine pop_then ?_
  refine hS.regS [0, 10, 0] [] fun _ => seg [(2, vi (IntKind.wrap .i64 (4096 * 2 ^ (min (Int.toNat r) 64))))] [] [.p (0 ≤ r)] ⟨by omega, trivial⟩ fun ac wd hS => ?_
  refine wp_ret ?_
  refine St.retC 0 hS (vi (IntKind.wrap .i64 (4096 * 2 ^ (min (Int.toNat r) 64)))) [] trivial fun hw => ?_
  refine ⟨retd (vint ?_), hw.fr0⟩
  all_goals (first | exact span_eq (by omega) (by omega) | (rw [spanV, if_neg (by simp [z_spanOk]; omega)]))

set_option maxRecDepth 100000 in
set_option maxHeartbeats 1000000 in
theorem ref01_Span (r : Int) (w : World) :
    Calls Tryd.prog 135 #[vi r] w fun e w' => e = .returned (vi (spanV r)) ∧ Fr w w' no no := by
 refine enter (args := [vi r]) (D := no) (A := []) Tryd.func135 rfl 19 rfl [] (WS.startL trivial) fun ac hS => ?_
 refine hS.regS [0] [0] fun _ => seg [] [] [] trivial fun ac wd hS => ?_
 refine wp_seq ?_
 refine hS.regS [0, 0, 0, 3, 3, 80] [0] fun _ => seg [(10, vb ((decide ((r : Int) < 0)) || (decide ((10 : Int) < r))))] [] [] trivial fun ac wd hS => ?_
 refine hS.condC ((decide ((r : Int) < 0)) || (decide ((10 : Int) < r))) (fun hb1o hb1 => ?_) (fun hb1o hb1 => ?_)
 ·
  refine hS.regS [0] [] fun _ => seg [(2, vi 0)] [] [] trivial fun ac wd hS => ?_
  refine wp_ret ?_
  refine pop_then_ret ?_
  refine St.retC 0 hS (vi 0) [] trivial fun hw => ?_
  refine ⟨retd (vint ?_), hw.fr0⟩
  all_goals (first | (rw [i1, show x4 = r by omega]) | (rw [spanV, if_neg (by simp [z_spanOk]; omega)]))
 ·
  refine wp_skip ?_
  refine pop_then ?_
  refine hS.regS [0] [0] fun _ => seg [(3, vi 4096)] [] [] trivial fun ac wd hS => ?_
  refine wp_seq ?_
  refine hS.regS [0] [0, 3] fun _ => seg [(4, vi 0)] [] [] trivial fun ac wd hS => ?_
  refine wp_block ?_
  refine St.loopC (σ := Int × Int) (fun (x : Int × Int) => match x with | (x3, x4) => ⟨[(0, [], vi r), (3, [], vi x3), (4, [], vi x4)], [], [], (0 ≤ x4 ∧ x4 ≤ r) ∧ (x3 = spanV x4) ∧ True, r.toNat - x4.toNat⟩) (4096, 0) ⟨(by first | omega | rfl), (by first | omega | rfl), trivial⟩ hS ?_
  clear hS
  rintro ⟨x3, x4⟩ ⟨i0, i1, -⟩ ac wd hS
  replace i0 : 0 ≤ x4 ∧ x4 ≤ r := i0
  replace i1 : x3 = spanV x4 := i1
  have hsb := spanV_bd x4
  have hss := fun h => spanV_succ (o := x4) i0.1 h
  refine wp_seq ?_
  refine hS.regS [0, 0, 0] [0, 3, 4] fun _ => seg [(13, vb (decide ((x4 : Int) < r)))] [] [] trivial fun ac wd hS => ?_
  refine hS.condC (decide ((x4 : Int) < r)) (fun hb2o hb2 => ?_) (fun hb2o hb2 => ?_)
  ·
   refine wp_skip ?_
   refine pop_then ?_
   refine wp_seq ?_
   refine wp_block ?_
   refine hS.regC [0, 20, 0] [0, 4] fun _ => seg [(3, vi (2 * x3))] [] [.p (fit .i64 (2 * x3))] ⟨fit_i64 (by omega), trivial⟩ fun ac wd hS => ?_
   refine pop_block ?_
   refine pop_then ?_
   refine hS.regC [0, 20, 0] [0, 3] fun _ => seg [(4, vi (x4 + 1))] [] [.p (fit .i64 (x4 + 1))] ⟨fit_i64 (by omega), trivial⟩ fun ac wd hS => ?_
   exact pop_then (hS.next ((2 * x3), (x4 + 1)) ⟨(by first | omega | assumption | (simp; done) | (simp; omega)), (by rw [hss (by omega)]; omega), trivial⟩ (by dsimp only; omega))
  ·
   refine wp_exit ?_
   refine pop_then_exit ?_
   refine pop_then_exit ?_
   refine pop_block_hit ?_
   refine pop_then ?_
   refine hS.regS [0, 0] [] fun _ => seg [(2, vi x3)] [] [] trivial fun ac wd hS => ?_
   refine wp_ret ?_
   refine St.retC 0 hS (vi x3) [] trivial fun hw => ?_
   refine ⟨retd (vint ?_), hw.fr0⟩
   all_goals (first | (rw [i1, show x4 = r by omega]) | (rw [spanV, if_neg (by simp [z_spanOk]; omega)]))

set_option maxRecDepth 100000 in
set_option maxHeartbeats 1000000 in
theorem chunk_End (at_ : Int) (ord : Int) (own : Int) (nx : Int) (w : World) (hat : 0 ≤ at_ ∧ at_ ≤ 4611686018427387904) :
    Calls Tryd.prog 130 #[.agg #[vi at_, vi ord, vu own, vi nx]] w fun e w' => e = .returned (vi (at_ + (spanV ord))) ∧ Fr w w' no no := by
 have hsp := spanV_bd ord
 refine enter (args := [.agg #[vi at_, vi ord, vu own, vi nx]]) (D := no) (A := []) Tryd.func130 rfl 9 rfl [] (WS.startL trivial) fun ac hS => ?_
 refine hS.regS [0, 0] [] fun ν1 => seg [(1, pt (ν1 0) 0)] [(0, some ((ν1 0), .cells [vi at_, vi ord, vu own, vi nx] 78))] [] trivial fun ac wd hS => ?_
 refine St.ordBeginS [(0, 1), (1, 1), (2, 1), (3, 1), (4, 0), (5, 1), (6, 1)] [((ν1 0), .cells [vi at_, vi ord, vu own, vi nx] 78)] [0] hS fun wd hS => ?_
 have hap := hS.mem.pairs (Hf := [((ν1 0), .cells [vi at_, vi ord, vu own, vi nx] 78)]) (l := [0])
 refine St.ordF [0, 0, 0, 0] [0, 1, 2, 3] [] (rest := [(4, 0), (5, 1), (6, 1)]) hS hap <| segF [(4, vi at_), (6, vi ord)] [.e (ν1 0), .e (ν1 0)] trivial fun ac hS => ?_
 refine hS.ordC 4 133 #[vi ord] (size_Span ord _  ) ?_
 rintro _ wd ⟨rfl, hF⟩
 refine ⟨vi (spanV ord), rfl, ?_⟩
 replace hS := (hS.to (hS.mem.keep0 hF)).put (d := 7) (v := vi (spanV ord)) (by decide)
 clear hF
 refine hS.ordV (l := [0]) ?_
 refine St.ordF [20, 0] [5, 6] [] (rest := []) hS hap <| segF [(2, vi (at_ + (spanV ord)))] [.p (fit .i64 (at_ + (spanV ord)))] ⟨fit_i64 (by omega), trivial⟩ fun ac hS => ?_
 refine ord_nil ?_
 refine wp_ret ?_
 refine St.retC 0 hS (vi (at_ + (spanV ord))) [] trivial fun hw => ?_
 refine ⟨retd rfl, hw.fr0⟩

set_option maxRecDepth 100000 in
set_option maxHeartbeats 1000000 in
theorem chunk_Has (at_ : Int) (ord : Int) (own : Int) (nx : Int) (a : Int) (n : Int) (w : World) (hat : 0 ≤ at_ ∧ at_ ≤ 4611686018427387904) :
    Calls Tryd.prog 131 #[.agg #[vi at_, vi ord, vu own, vi nx], vi a, vi n] w fun e w' => e = .returned (vb (cHas at_ ord a n)) ∧ Fr w w' no no := by
 have hsp := spanV_bd ord
 refine enter (args := [.agg #[vi at_, vi ord, vu own, vi nx], vi a, vi n]) (D := no) (A := []) Tryd.func131 rfl 31 rfl [] (WS.startL trivial) fun ac hS => ?_
 refine hS.regS [0, 0] [1, 2] fun ν1 => seg [(3, pt (ν1 0) 0)] [(0, some ((ν1 0), .cells [vi at_, vi ord, vu own, vi nx] 78))] [] trivial fun ac wd hS => ?_
 refine wp_region_seq ?_
 refine hS.opsC 3 [0, 0, 0] [1, 2, 3] fun _ => seg [(9, vb (decide ((0 : Int) ≤ n)))] [(0, none)] [] trivial fun ac wd hS => ?_
 rcases Bool.eq_false_or_eq_true (decide ((0 : Int) ≤ n)) with hg1o | hg1o
 ·
  have hg1 := nrm hg1o
  replace hS := hS.fix 9 (vb true) (congrArg Value.bool hg1o)
  refine hS.opsC 3 [1, 1, 1] [1, 2, 3, 9] fun _ => seg [(10, vi n), (12, vi ord)] [(0, none)] [.t true, .e (ν1 0), .t true, .t true] trivial fun ac wd hS => ?_
  refine hS.callG true 133 #[vi ord] (size_Span ord _  ) ?_
  rintro _ wd ⟨rfl, hF⟩
  refine ⟨vi (spanV ord), rfl, ?_⟩
  replace hS := (hS.to (hS.mem.keep0 hF)).put (d := 13) (v := vi (spanV ord)) (by decide)
  clear hF
  refine hS.opsC 10 [1, 70, 0, 3, 3, 3, 23, 3, 80, 0] [1, 2, 3] fun _ => seg [(23, vb ((decide ((n : Int) ≤ (spanV ord))) && (decide (((at_ + 32) : Int) ≤ a))))] [(0, none)] [.p ((((decide ((n : Int) ≤ (spanV ord))) = true) ∧ True) → AllP [fit .i64 (at_ + 32)]), .p ((((decide ((n : Int) ≤ (spanV ord))) = true) ∧ True) → AllP [((ν1 0) : Nat) = (ν1 0)]), .t true, .t true] ⟨(fun ⟨hc0, _⟩ => by replace hc0 := nrm hc0; exact ⟨fit_i64 (by omega), trivial⟩), (fun ⟨hc0, _⟩ => by replace hc0 := nrm hc0; exact ⟨rfl, trivial⟩), trivial⟩ fun ac wd hS => ?_
  rcases Bool.eq_false_or_eq_true ((decide ((n : Int) ≤ (spanV ord))) && (decide (((at_ + 32) : Int) ≤ a))) with hg2o | hg2o
  ·
   have hg2 := nrm hg2o
   replace hS := hS.fix 23 (vb true) (congrArg Value.bool hg2o)
   refine hS.opsC 2 [1, 1] [2, 23] fun _ => seg [(24, vi a), (25, .agg #[vi at_, vi ord, vu own, vi nx])] [] [.t true, .e (ν1 0), .e (ν1 0), .e (ν1 0), .e (ν1 0), .t true] trivial fun ac wd hS => ?_
   refine hS.callG true 130 #[.agg #[vi at_, vi ord, vu own, vi nx]] (chunk_End at_ ord own nx _  (by first | assumption | omega | (simp_all; done) | (simp_all; omega))) ?_
   rintro _ wd ⟨rfl, hF⟩
   refine ⟨vi (at_ + (spanV ord)), rfl, ?_⟩
   replace hS := (hS.to (hS.mem.keep0 hF)).put (d := 26) (v := vi (at_ + (spanV ord))) (by decide)
   clear hF
   refine hS.opsC 5 [1, 21, 1, 70, 0] [] fun _ => seg [(6, vb (decide ((a : Int) ≤ ((at_ + (spanV ord)) - n))))] [] [.t true, .t true, .t true, .p (fit .i64 ((at_ + (spanV ord)) - n)), .t true] ⟨fit_i64 (by omega), trivial⟩ fun ac wd hS => ?_
   refine list_nil_seq ?_
   refine wp_ret ?_
   refine St.retC 0 hS (vb (decide ((a : Int) ≤ ((at_ + (spanV ord)) - n)))) [] trivial fun hw => ?_
   refine ⟨retd (vbool ?_), hw.fr0⟩
   all_goals (first | rfl | (unfold cHas; simp_all; done) | (unfold cHas; simp_all; omega))
  ·
   have hg2 := nrm hg2o
   replace hS := hS.fix 23 (vb false) (congrArg Value.bool hg2o)
   refine hS.opsC 8 [2, 2, 2, 2, 2, 2, 60, 0] [] fun _ => seg [(6, vb false)] [] [.t false, .t false, .t false, .t false, .t false, .t false, .t false] trivial fun ac wd hS => ?_
   refine list_nil_seq ?_
   refine wp_ret ?_
   refine St.retC 0 hS (vb false) [] trivial fun hw => ?_
   refine ⟨retd (vbool ?_), hw.fr0⟩
   all_goals (first | rfl | (unfold cHas; simp_all; done) | (unfold cHas; simp_all; omega))
 ·
  have hg1 := nrm hg1o
  replace hS := hS.fix 9 (vb false) (congrArg Value.bool hg1o)
  refine hS.opsC 14 [2, 2, 2, 2, 2, 60, 0, 2, 2, 2, 2, 2, 60, 0] [1, 2, 3] fun _ => seg [(23, vb false)] [(0, none)] [.t false, .t false, .t false, .t false, .t false, .t false, .t false, .t false, .t false, .t false, .t false, .t false] trivial fun ac wd hS => ?_
  refine hS.opsC 8 [2, 2, 2, 2, 2, 2, 60, 0] [] fun _ => seg [(6, vb false)] [] [.t false, .t false, .t false, .t false, .t false, .t false, .t false] trivial fun ac wd hS => ?_
  refine list_nil_seq ?_
  refine wp_ret ?_
  refine St.retC 0 hS (vb false) [] trivial fun hw => ?_
  refine ⟨retd (vbool ?_), hw.fr0⟩
  all_goals (first | rfl | (unfold cHas; simp_all; done) | (unfold cHas; simp_all; omega))

end Go.Proofs.YtindbpffbjhfaaaDoor.K
