/-
  Walks, printed by w2.py.
-/
import Derived.Test.YtindbpffbjhfaaaDoorGd
import Derived.Test.YtindbpffbjhfaaaDoorProg
namespace Go.Proofs.YtindbpffbjhfaaaDoor.K
set_option linter.unusedVariables false
set_option linter.unusedSimpArgs false

set_option maxRecDepth 100000 in
set_option maxHeartbeats 1000000 in
theorem obj_Aligned (a : Int) (w : World) :
    Calls Tryd.prog 181 #[vi a] w fun e w' => e = .returned (vb (alB a)) ∧ Fr w w' no no := by
 refine enter (args := [vi a]) (D := no) (A := []) Tryd.func181 rfl 9 rfl [] (WS.startL trivial) fun ac hS => ?_
 refine hS.regS [0] [0] fun _ => seg [] [] [] trivial fun ac wd hS => ?_
 refine wp_region_seq ?_
 refine hS.opsC 3 [0, 0, 0] [0] fun _ => seg [(5, vb (decide ((a : Int) ≤ 64)))] [] [] trivial fun ac wd hS => ?_
 rcases Bool.eq_false_or_eq_true (decide ((a : Int) ≤ 64)) with hg1o | hg1o
 ·
  have hg1 := nrm hg1o
  replace hS := hS.fix 5 (vb true) (congrArg Value.bool hg1o)
  refine hS.opsC 1 [1] [5] fun _ => seg [(6, vi a)] [] [.t true] trivial fun ac wd hS => ?_
  refine hS.callG true 213 #[vi a] (size_Whole a _  ) ?_
  rintro _ wd ⟨rfl, hF⟩
  refine ⟨vb (z_whole a), rfl, ?_⟩
  replace hS := (hS.to (hS.mem.keep0 hF)).put (d := 7) (v := vb (z_whole a)) (by decide)
  clear hF
  refine hS.opsC 2 [70, 0] [] fun _ => seg [(2, vb (z_whole a))] [] [.t true] trivial fun ac wd hS => ?_
  refine list_nil_seq ?_
  refine wp_ret ?_
  refine St.retC 0 hS (vb (z_whole a)) [] trivial fun hw => ?_
  refine ⟨retd (vbool ?_), hw.fr0⟩
  all_goals (first | rfl | (unfold alB; simp_all; done) | (unfold alB; simp_all; omega))
 ·
  have hg1 := nrm hg1o
  replace hS := hS.fix 5 (vb false) (congrArg Value.bool hg1o)
  refine hS.opsC 4 [2, 2, 60, 0] [] fun _ => seg [(2, vb false)] [] [.t false, .t false, .t false] trivial fun ac wd hS => ?_
  refine list_nil_seq ?_
  refine wp_ret ?_
  refine St.retC 0 hS (vb false) [] trivial fun hw => ?_
  refine ⟨retd (vbool ?_), hw.fr0⟩
  all_goals (first | rfl | (unfold alB; simp_all; done) | (unfold alB; simp_all; omega))

set_option maxRecDepth 100000 in
set_option maxHeartbeats 1000000 in
theorem obj_Fit (at_ : Int) (ord : Int) (own : Int) (nx : Int) (f : Int) (n : Int) (a : Int) (w : World) (hat : 0 ≤ at_ ∧ at_ ≤ 8589934592) :
    Calls Tryd.prog 108 #[.agg #[vi at_, vi ord, vu own, vi nx], vi f, vi n, vi a] w fun e w' => e = .returned (.tuple #[vi (fitV at_ ord f n a), vb (fitB at_ ord f n a)]) ∧ Fr w w' no no := by
 have hsp := spanV_bd ord
 refine enter (args := [.agg #[vi at_, vi ord, vu own, vi nx], vi f, vi n, vi a]) (D := no) (A := []) Tryd.func108 rfl 41 rfl [] (WS.startL trivial) fun ac hS => ?_
 refine hS.regS [0, 0, 0] [1, 2, 3] fun ν1 => seg [(4, pt (ν1 0) 0)] [(0, some ((ν1 0), .cells [vi at_, vi ord, vu own, vi nx] 78))] [] trivial fun ac wd hS => ?_
 refine wp_seq ?_
 refine wp_region_seq ?_
 refine hS.opsC 1 [0] [1, 2, 3, 4] fun _ => seg [(11, vi a)] [(0, none)] [] trivial fun ac wd hS => ?_
 refine hS.call0 181 #[vi a] 12 (obj_Aligned a _  ) fun ac wd hS => ?_
 refine hS.opsC 9 [0, 0, 3, 3, 3, 23, 3, 80, 0] [1, 2, 3, 4] fun _ => seg [(21, vb ((!(alB a)) || (decide ((f : Int) < (at_ + 32)))))] [(0, none)] [.p ((((!(alB a)) = false) ∧ True) → AllP [fit .i64 (at_ + 32)]), .p ((((!(alB a)) = false) ∧ True) → AllP [((ν1 0) : Nat) = (ν1 0)])] ⟨(fun ⟨hc0, _⟩ => by replace hc0 := nrm hc0; exact ⟨fit_i64 (by omega), trivial⟩), (fun ⟨hc0, _⟩ => by replace hc0 := nrm hc0; exact ⟨rfl, trivial⟩), trivial⟩ fun ac wd hS => ?_
 rcases Bool.eq_false_or_eq_true ((!(alB a)) || (decide ((f : Int) < (at_ + 32)))) with hg1o | hg1o
 ·
  have hg1 := nrm hg1o
  have hno : fitB at_ ord f n a = false := fitB_1 (fun h => by obtain ⟨q1, q2, q3⟩ := h; simp_all; try omega)
  replace hS := hS.fix 21 (vb true) (congrArg Value.bool hg1o)
  refine hS.opsC 5 [2, 2, 2, 2, 70] [1, 2, 3, 4] fun _ => seg [(26, vb true)] [(0, none)] [.t true, .t true, .t true, .t true, .t true] trivial fun ac wd hS => ?_
  refine list_nil_seq ?_
  refine hS.condT ?_
  refine hS.regS [0, 0] [] fun _ => seg [(8, vi 0), (9, vb false)] [] [] trivial fun ac wd hS => ?_
  refine wp_ret ?_
  refine pop_then_ret ?_
  refine St.retC 0 hS (.tuple #[vi 0, vb false]) [] trivial fun hw => ?_
  refine ⟨retd (tuple2 (vint ?_) (vbool ?_)), hw.fr0⟩
  all_goals (first | exact (fit_no hno).1 | exact (fit_no hno).2 | exact (fit_yes hye).1 | exact (fit_yes hye).2)
 ·
  have hg1 := nrm hg1o
  have hal : alB a = true := by simp_all
  have hf1 : at_ + 32 ≤ f := by simp_all
  obtain ⟨ha1, ha2, ha3⟩ := alB_in hal
  obtain ⟨hu1, hu2, hu3⟩ := alUp_facts (x := f + 16) ha1
  replace hS := hS.fix 21 (vb false) (congrArg Value.bool hg1o)
  refine hS.opsC 2 [1, 1] [1, 2, 3, 4, 21] fun _ => seg [(22, vi f), (23, .agg #[vi at_, vi ord, vu own, vi nx])] [(0, none)] [.t false, .e (ν1 0), .e (ν1 0), .e (ν1 0), .e (ν1 0), .t false] trivial fun ac wd hS => ?_
  refine hS.callG false 130 #[.agg #[vi at_, vi ord, vu own, vi nx]] (chunk_End at_ ord own nx _  (by first | assumption | omega | (simp_all; done) | (simp_all; omega))) ?_
  rintro _ wd ⟨rfl, hF⟩
  refine ⟨vi (at_ + (spanV ord)), rfl, ?_⟩
  replace hS := (hS.to (hS.mem.keep0 hF)).put (d := 24) (v := vi (at_ + (spanV ord))) (by decide)
  clear hF
  refine hS.opsC 2 [1, 60] [1, 2, 3, 4] fun _ => seg [(26, vb (decide (((at_ + (spanV ord)) : Int) < f)))] [(0, none)] [.t false, .t false] trivial fun ac wd hS => ?_
  refine list_nil_seq ?_
  refine hS.condC (decide (((at_ + (spanV ord)) : Int) < f)) (fun hb2o hb2 => ?_) (fun hb2o hb2 => ?_)
  ·
   have hno : fitB at_ ord f n a = false := fitB_1 (fun h => by have := hb2; omega)
   refine hS.regS [0, 0] [] fun _ => seg [(8, vi 0), (9, vb false)] [] [] trivial fun ac wd hS => ?_
   refine wp_ret ?_
   refine pop_then_ret ?_
   refine St.retC 0 hS (.tuple #[vi 0, vb false]) [] trivial fun hw => ?_
   refine ⟨retd (tuple2 (vint ?_) (vbool ?_)), hw.fr0⟩
   all_goals (first | exact (fit_no hno).1 | exact (fit_no hno).2 | exact (fit_yes hye).1 | exact (fit_yes hye).2)
  ·
   have hf2 : f ≤ at_ + spanV ord := by have := hb2; omega
   have hfb := fitB_2 (n := n) ⟨hal, hf1, hf2⟩
   refine wp_skip ?_
   refine pop_then ?_
   refine hS.regS [0, 20, 0, 20, 20, 0, 20, fx 0 (vi (alUp (f + 16) a)), 0] [2, 4] fun _ => seg [(10, vi (alUp (f + 16) a))] [(0, none)] [.p ((vi (iandNot .i64 (((f + 16) + a) - 1) (a - 1)) : Value) = vi (alUp (f + 16) a)), .p (fit .i64 (a - 1)), .p (fit .i64 (((f + 16) + a) - 1)), .p (fit .i64 ((f + 16) + a)), .p (fit .i64 (f + 16))] ⟨(vint (alUp_eq hal (by omega))), fit_i64 (by omega), fit_i64 (by omega), fit_i64 (by omega), fit_i64 (by omega), trivial⟩ fun ac wd hS => ?_
   refine wp_seq ?_
   refine wp_region_seq ?_
   refine hS.opsC 3 [0, 0, 0] [10] fun _ => seg [(35, .agg #[vi at_, vi ord, vu own, vi nx]), (36, vi (alUp (f + 16) a)), (37, vi n)] [] [.e (ν1 0), .e (ν1 0), .e (ν1 0), .e (ν1 0)] trivial fun ac wd hS => ?_
   refine hS.call0 131 #[.agg #[vi at_, vi ord, vu own, vi nx], vi (alUp (f + 16) a), vi n] 38 (chunk_Has at_ ord own nx (alUp (f + 16) a) n _  (by first | assumption | omega | (simp_all; done) | (simp_all; omega))) fun ac wd hS => ?_
   refine hS.opsC 1 [0] [10] fun _ => seg [(39, vb (!(cHas at_ ord (alUp (f + 16) a) n)))] [] [] trivial fun ac wd hS => ?_
   refine list_nil_seq ?_
   refine hS.condC (!(cHas at_ ord (alUp (f + 16) a) n)) (fun hb3o hb3 => ?_) (fun hb3o hb3 => ?_)
   ·
    have hno : fitB at_ ord f n a = false := by rw [hfb]; simpa using hb3
    refine hS.regS [0, 0] [] fun _ => seg [(8, vi 0), (9, vb false)] [] [] trivial fun ac wd hS => ?_
    refine wp_ret ?_
    refine pop_then_ret ?_
    refine St.retC 0 hS (.tuple #[vi 0, vb false]) [] trivial fun hw => ?_
    refine ⟨retd (tuple2 (vint ?_) (vbool ?_)), hw.fr0⟩
    all_goals (first | exact (fit_no hno).1 | exact (fit_no hno).2 | exact (fit_yes hye).1 | exact (fit_yes hye).2)
   ·
    have hye : fitB at_ ord f n a = true := by rw [hfb]; simpa using hb3
    refine wp_skip ?_
    refine pop_then ?_
    refine hS.regS [0, 0, 0] [] fun _ => seg [(8, vi (alUp (f + 16) a)), (9, vb true)] [] [] trivial fun ac wd hS => ?_
    refine wp_ret ?_
    refine St.retC 0 hS (.tuple #[vi (alUp (f + 16) a), vb true]) [] trivial fun hw => ?_
    refine ⟨retd (tuple2 (vint ?_) (vbool ?_)), hw.fr0⟩
    all_goals (first | exact (fit_no hno).1 | exact (fit_no hno).2 | exact (fit_yes hye).1 | exact (fit_yes hye).2)

set_option maxRecDepth 100000 in
set_option maxHeartbeats 1000000 in
theorem obj_Need (f : Int) (n : Int) (a : Int) (w : World) :
    Calls Tryd.prog 109 #[vi f, vi n, vi a] w fun e w' => e = .returned (.tuple #[vi (needV f n a), vb (needB f n a)]) ∧ Fr w w' no no := by
 refine enter (args := [vi f, vi n, vi a]) (D := no) (A := []) Tryd.func109 rfl 27 rfl [] (WS.startL trivial) fun ac hS => ?_
 refine hS.regS [0, 0] [0, 1, 2] fun _ => seg [] [] [] trivial fun ac wd hS => ?_
 refine wp_seq ?_
 refine hS.regS [0] [0, 1, 2] fun _ => seg [(11, vi 0)] [] [] trivial fun ac wd hS => ?_
 refine wp_block ?_
 refine St.loopC (σ := Int) (fun (x11 : Int) => ⟨[(0, [], vi f), (1, [], vi n), (2, [], vi a), (11, [], vi x11)], [], [], (0 ≤ x11 ∧ x11 ≤ 11) ∧ (NeedUp f n a x11) ∧ True, 11 - Int.toNat x11⟩) 0 ⟨(by first | omega | exact needUp_zero f n a), (by first | omega | exact needUp_zero f n a), trivial⟩ hS ?_
 clear hS
 rintro x11 ⟨i0, i1, -⟩ ac wd hS
 replace i0 : 0 ≤ x11 ∧ x11 ≤ 11 := i0
 replace i1 : NeedUp f n a x11 := i1
 refine hS.regS [0] [0, 1, 2, 11] fun _ => seg [(12, vb (decide ((x11 : Int) < 11)))] [] [] trivial fun ac wd hS => ?_
 refine wp_seq ?_
 refine hS.condC (decide ((x11 : Int) < 11)) (fun hb1o hb1 => ?_) (fun hb1o hb1 => ?_)
 ·
  refine wp_skip ?_
  refine pop_then ?_
  refine wp_seq ?_
  refine wp_block ?_
  refine hS.regS [0, 0] [0, 1, 2, 11] fun _ => seg [(8, vi x11)] [] [] trivial fun ac wd hS => ?_
  refine wp_region_seq ?_
  refine hS.opsC 6 [0, 0, 0, 0, 0, 0] [0, 1, 2, 8, 11] fun _ => seg [(16, .agg #[vi 0, vi x11, vu 0, vi 0]), (18, vi (imax f 32)), (19, vi n), (20, vi a)] [] [] trivial fun ac wd hS => ?_
  refine hS.call0 108 #[.agg #[vi 0, vi x11, vu 0, vi 0], vi (imax f 32), vi n, vi a] 21 (obj_Fit 0 x11 0 0 (imax f 32) n a _  (by first | assumption | omega | (simp_all; done) | (simp_all; omega))) fun ac wd hS => ?_
  refine hS.opsC 5 [0, 0, 0, 0, 0] [0, 1, 2, 8, 11] fun _ => seg [(10, vb (fitB 0 x11 (imax f 32) n a))] [] [] trivial fun ac wd hS => ?_
  refine list_nil_seq ?_
  refine hS.regS [0] [0, 1, 2, 8, 11] fun _ => seg [(24, vb (fitB 0 x11 (imax f 32) n a))] [] [] trivial fun ac wd hS => ?_
  refine hS.condC (fitB 0 x11 (imax f 32) n a) (fun hb2o hb2 => ?_) (fun hb2o hb2 => ?_)
  ·
   have hfb : fitB 0 x11 (imax f 32) n a = true := by simpa using hb2
   refine hS.regS [0, 0, 0] [] fun _ => seg [(6, vi x11), (7, vb true)] [] [] trivial fun ac wd hS => ?_
   refine wp_ret ?_
   refine pop_block_ret ?_
   refine pop_then_ret ?_
   refine pop_then_ret ?_
   refine pop_block_ret ?_
   refine pop_then_ret ?_
   refine St.retC 0 hS (.tuple #[vi x11, vb true]) [] trivial fun hw => ?_
   refine ⟨retd (tuple2 (vint ?_) (vbool ?_)), hw.fr0⟩
   all_goals (first | exact (need_at i1 i0.1 (by omega) hfb).1 | exact (need_at i1 i0.1 (by omega) hfb).2 | exact (need_none i1 (by omega)).1 | exact (need_none i1 (by omega)).2)
  ·
   have hfb : fitB 0 x11 (imax f 32) n a = false := by simpa using hb2
   refine wp_skip ?_
   refine pop_block ?_
   refine pop_then ?_
   refine hS.regC [20, 0] [0, 1, 2] fun _ => seg [(11, vi (x11 + 1))] [] [.p (fit .i64 (x11 + 1))] ⟨fit_i64 (by omega), trivial⟩ fun ac wd hS => ?_
   exact pop_then (hS.next (x11 + 1) ⟨(by first | omega | assumption | (simp; done) | (simp; omega)), (by exact needUp_step i1 i0.1 hfb), trivial⟩ (by dsimp only; omega))
 ·
  refine wp_exit ?_
  refine pop_then_exit ?_
  refine pop_then_exit ?_
  refine pop_block_hit ?_
  refine pop_then ?_
  refine hS.regS [0, 0] [] fun _ => seg [(6, vi 0), (7, vb false)] [] [] trivial fun ac wd hS => ?_
  refine wp_ret ?_
  refine St.retC 0 hS (.tuple #[vi 0, vb false]) [] trivial fun hw => ?_
  refine ⟨retd (tuple2 (vint ?_) (vbool ?_)), hw.fr0⟩
  all_goals (first | exact (need_at i1 i0.1 (by omega) hfb).1 | exact (need_at i1 i0.1 (by omega) hfb).2 | exact (need_none i1 (by omega)).1 | exact (need_none i1 (by omega)).2)

set_option maxRecDepth 100000 in
set_option maxHeartbeats 1000000 in
theorem law14_awake (w : World) (hh0 : HE.holds w 1 (.fn 0 64 dbT)) :
    Calls Tryd.prog 31 #[] w fun e w' => e = .returned (vb true) ∧ Fr w w' no no := by
 refine enter (args := []) (D := no) (A := []) Tryd.func31 rfl 42 rfl [(1, .fn 0 64 dbT)] (WS.startL ⟨⟨rfl, hh0⟩, trivial⟩) fun ac hS => ?_
 refine hS.regS [0] [] fun _ => seg [] [(0, none)] [] trivial fun ac wd hS => ?_
 refine wp_region_seq ?_
 refine hS.opsC 1 [0] [] fun _ => seg [(8, .agg #[vi 4096, vi 0, vu 0, vi 0])] [(0, none)] [] trivial fun ac wd hS => ?_
 refine hS.call0 108 #[.agg #[vi 4096, vi 0, vu 0, vi 0], vi 4128, vi 10, vi 8] 9 (obj_Fit 4096 0 0 0 4128 10 8 _  (by decide)) fun ac wd hS => ?_
 refine hS.opsC 5 [0, 0, 0, 0, 0] [] fun _ => seg [(1, vi (fitV 4096 0 4128 10 8)), (2, vb (fitB 4096 0 4128 10 8))] [(0, none)] [] trivial fun ac wd hS => ?_
 refine list_nil_seq ?_
 refine wp_region_seq ?_
 refine hS.call0 109 #[vi 32, vi 4048, vi 16] 13 (obj_Need 32 4048 16 _  ) fun ac wd hS => ?_
 refine hS.opsC 5 [0, 0, 0, 0, 0] [1, 2] fun _ => seg [(3, vi (needV 32 4048 16)), (4, vb (needB 32 4048 16))] [(0, none)] [] trivial fun ac wd hS => ?_
 refine list_nil_seq ?_
 refine wp_region_seq ?_
 refine hS.call0 109 #[vi 32, vi 4049, vi 16] 17 (obj_Need 32 4049 16 _  ) fun ac wd hS => ?_
 refine hS.opsC 5 [0, 0, 0, 0, 0] [1, 2, 3, 4] fun _ => seg [(5, vi (needV 32 4049 16)), (6, vb (needB 32 4049 16))] [(0, none)] [] trivial fun ac wd hS => ?_
 refine list_nil_seq ?_
 refine wp_region_seq ?_
 refine hS.call0 110 #[] 20 (law10_Awake  _ (hS.mem.get 0 1 (.fn 0 64 dbT)) ) fun ac wd hS => ?_
 refine hS.opsC 22 [0, 1, 70, 0, 3, 3, 80, 0, 3, 80, 0, 3, 80, 0, 3, 3, 80, 0, 3, 3, 80, 0] [] fun _ => seg [(0, vb ((((((fitB 4096 0 4128 10 8) && (((fitV 4096 0 4128 10 8) : Int) == 4144)) && (needB 32 4048 16)) && (needB 32 4049 16)) && (((needV 32 4048 16) : Int) == 0)) && (((needV 32 4049 16) : Int) == 1)))] [(0, none)] [.t true, .t true] trivial fun ac wd hS => ?_
 refine list_nil_seq ?_
 refine wp_ret ?_
 refine St.retC 0 hS (vb ((((((fitB 4096 0 4128 10 8) && (((fitV 4096 0 4128 10 8) : Int) == 4144)) && (needB 32 4048 16)) && (needB 32 4049 16)) && (((needV 32 4048 16) : Int) == 0)) && (((needV 32 4049 16) : Int) == 1))) [] trivial fun hw => ?_
 refine ⟨retd (vbool ?_), hw.fr0⟩
 all_goals (first | rfl | decide +kernel)

end Go.Proofs.YtindbpffbjhfaaaDoor.K
