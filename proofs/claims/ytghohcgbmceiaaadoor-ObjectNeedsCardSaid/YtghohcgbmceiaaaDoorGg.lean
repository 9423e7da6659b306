/-
  Walks, printed by w2.py.
-/
import Derived.Test.YtghohcgbmceiaaaDoorGf
import Derived.Test.YtghohcgbmceiaaaDoorProg
namespace Go.Proofs.YtghohcgbmceiaaaDoor.K
set_option linter.unusedVariables false
set_option linter.unusedSimpArgs false

set_option maxRecDepth 100000 in
set_option maxHeartbeats 1000000 in
theorem law14_ObjectFits (at_ : Int) (ord : Int) (own : Int) (nx : Int) (f : Int) (n : Int) (a : Int) (w : World) (hh0 : HE.holds w 1 (.fn 0 64 dbT)) :
    Calls Tryd.prog 9 #[.agg #[vi at_, vi ord, vu own, vi nx], vi f, vi n, vi a] w fun e w' => e = .returned (vb true) ∧ Fr w w' no no := by
 have hsp := spanV_bd ord
 refine enter (args := [.agg #[vi at_, vi ord, vu own, vi nx], vi f, vi n, vi a]) (D := no) (A := []) Tryd.func9 rfl 94 rfl [(1, .fn 0 64 dbT)] (WS.startL ⟨⟨rfl, hh0⟩, trivial⟩) fun ac hS => ?_
 refine hS.regS [0, 0] [1, 2, 3] fun ν1 => seg [(4, pt (ν1 0) 0)] [(0, none), (1, some ((ν1 0), .cells [vi at_, vi ord, vu own, vi nx] 70))] [] trivial fun ac wd hS => ?_
 refine wp_seq ?_
 refine wp_region_seq ?_
 refine hS.call0 53 #[] 17 (law14_awake  _ (hS.mem.get 0 1 (.fn 0 64 dbT)) ) fun ac wd hS => ?_
 refine hS.opsC 1 [0] [1, 2, 3, 4] fun _ => seg [(18, vb false)] [(0, none), (1, none)] [] trivial fun ac wd hS => ?_
 refine list_nil_seq ?_
 refine hS.condF ?_
 refine wp_skip ?_
 refine pop_then ?_
 refine wp_seq ?_
 refine wp_region_seq ?_
 refine hS.opsC 15 [0, 100, 0, 0, 3, 103, 3, 80, 0, 3, 103, 23, 3, 80, 0] [1, 2, 3, 4] fun _ => seg [(33, vb (((decide ((at_ : Int) < 0)) || (decide ((4294967296 : Int) < at_))) || (((at_ % 4096) : Int) != 0)))] [(0, none), (1, none)] [.p (((((decide ((at_ : Int) < 0)) || (decide ((4294967296 : Int) < at_))) = false) ∧ True) → AllP [(4096 : Int) ≠ 0 ∧ Int.tmod at_ 4096 = at_ % 4096]), .p (((((decide ((at_ : Int) < 0)) || (decide ((4294967296 : Int) < at_))) = false) ∧ True) → AllP [((ν1 0) : Nat) = (ν1 0)]), .p ((((decide ((at_ : Int) < 0)) = false) ∧ True) → AllP [((ν1 0) : Nat) = (ν1 0)]), .e (ν1 0)] ⟨(fun ⟨hc0, _⟩ => by replace hc0 := nrm hc0; exact ⟨rem2 (by omega) (by omega), trivial⟩), (fun ⟨hc0, _⟩ => by replace hc0 := nrm hc0; exact ⟨rfl, trivial⟩), (fun ⟨hc0, _⟩ => by replace hc0 := nrm hc0; exact ⟨rfl, trivial⟩), trivial⟩ fun ac wd hS => ?_
 rcases Bool.eq_false_or_eq_true (((decide ((at_ : Int) < 0)) || (decide ((4294967296 : Int) < at_))) || (((at_ % 4096) : Int) != 0)) with hg1o | hg1o
 ·
  have hg1 := nrm hg1o
  replace hS := hS.fix 33 (vb true) (congrArg Value.bool hg1o)
  refine hS.opsC 5 [2, 2, 2, 2, 70] [1, 2, 3, 4] fun _ => seg [(38, vb true)] [(0, none), (1, none)] [.t true, .t true, .t true, .t true, .t true] trivial fun ac wd hS => ?_
  refine list_nil_seq ?_
  refine hS.condT ?_
  refine hS.regS [0] [] fun _ => seg [(8, vb true)] [(0, none)] [] trivial fun ac wd hS => ?_
  refine wp_ret ?_
  refine pop_then_ret ?_
  refine St.retC 0 hS (vb true) [] trivial fun hw => ?_
  refine ⟨retd rfl, hw.fr0⟩
 ·
  have hg1 := nrm hg1o
  replace hS := hS.fix 33 (vb false) (congrArg Value.bool hg1o)
  refine hS.opsC 2 [1, 101] [1, 2, 3, 4, 33] fun _ => seg [(35, vi ord)] [(0, none), (1, none)] [.t false, .e (ν1 0), .t false] trivial fun ac wd hS => ?_
  refine hS.callG false 46 #[vi ord] (ref01_Span ord _  ) ?_
  rintro _ wd ⟨rfl, hF⟩
  refine ⟨vi (spanV ord), rfl, ?_⟩
  replace hS := (hS.to (hS.mem.keep0 hF)).put (d := 36) (v := vi (spanV ord)) (by decide)
  clear hF
  refine hS.opsC 2 [1, 60] [1, 2, 3, 4] fun _ => seg [(38, vb (((spanV ord) : Int) == 0))] [(0, none), (1, none)] [.t false, .t false] trivial fun ac wd hS => ?_
  refine list_nil_seq ?_
  refine hS.condC (((spanV ord) : Int) == 0) (fun hb2o hb2 => ?_) (fun hb2o hb2 => ?_)
  ·
   refine hS.regS [0] [] fun _ => seg [(8, vb true)] [(0, none)] [] trivial fun ac wd hS => ?_
   refine wp_ret ?_
   refine pop_then_ret ?_
   refine St.retC 0 hS (vb true) [] trivial fun hw => ?_
   refine ⟨retd rfl, hw.fr0⟩
  ·
   have hat2 : 0 ≤ at_ ∧ at_ ≤ 4294967296 := by first | (simp_all; done) | (simp_all; omega)
   refine wp_skip ?_
   refine pop_then ?_
   refine wp_region_seq ?_
   refine hS.opsC 4 [100, 0, 0, 0] [1, 2, 3, 4] fun _ => seg [(40, .agg #[vi at_, vi ord, vu own, vi nx]), (41, vi f), (42, vi n), (43, vi a)] [(0, none), (1, none)] [.e (ν1 0), .e (ν1 0), .e (ν1 0), .e (ν1 0)] trivial fun ac wd hS => ?_
   refine hS.call0 54 #[.agg #[vi at_, vi ord, vu own, vi nx], vi f, vi n, vi a] 44 (obj_Fit at_ ord own nx f n a _  (by first | assumption | omega | (simp_all; done) | (simp_all; omega))) fun ac wd hS => ?_
   refine hS.opsC 5 [0, 0, 0, 0, 0] [1, 2, 3, 4] fun _ => seg [(9, vi (fitV at_ ord f n a)), (10, vb (fitB at_ ord f n a))] [(0, none), (1, none)] [] trivial fun ac wd hS => ?_
   refine list_nil_seq ?_
   refine wp_region_seq ?_
   refine hS.opsC 4 [100, 0, 0, 0] [1, 2, 3, 9, 10] fun _ => seg [(48, .agg #[vi at_, vi ord, vu own, vi nx]), (49, vi f), (50, vi n), (51, vi a)] [(0, none)] [.e (ν1 0), .e (ν1 0), .e (ν1 0), .e (ν1 0)] trivial fun ac wd hS => ?_
   refine hS.call0 55 #[.agg #[vi at_, vi ord, vu own, vi nx], vi f, vi n, vi a] 52 (ref14_Fit at_ ord own nx f n a _  (by first | assumption | omega | (simp_all; done) | (simp_all; omega))) fun ac wd hS => ?_
   refine hS.opsC 5 [0, 0, 0, 0, 0] [1, 2, 3, 9, 10] fun _ => seg [(11, vi (fitV at_ ord f n a)), (12, vb (fitB at_ ord f n a))] [(0, none)] [] trivial fun ac wd hS => ?_
   refine list_nil_seq ?_
   refine wp_region_seq ?_
   refine hS.opsC 3 [0, 0, 0] [1, 2, 3, 9, 10, 11, 12] fun _ => seg [(56, vi f), (57, vi n), (58, vi a)] [(0, none)] [] trivial fun ac wd hS => ?_
   refine hS.call0 56 #[vi f, vi n, vi a] 59 (obj_Need f n a _  ) fun ac wd hS => ?_
   refine hS.opsC 5 [0, 0, 0, 0, 0] [1, 2, 3, 9, 10, 11, 12] fun _ => seg [(13, vi (needV f n a)), (14, vb (needB f n a))] [(0, none)] [] trivial fun ac wd hS => ?_
   refine list_nil_seq ?_
   refine wp_region_seq ?_
   refine hS.opsC 3 [0, 0, 0] [3, 9, 10, 11, 12, 13, 14] fun _ => seg [(63, vi f), (64, vi n), (65, vi a)] [(0, none)] [] trivial fun ac wd hS => ?_
   refine hS.call0 57 #[vi f, vi n, vi a] 66 (ref14_Need f n a _  ) fun ac wd hS => ?_
   refine hS.opsC 5 [0, 0, 0, 0, 0] [3, 9, 10, 11, 12, 13, 14] fun _ => seg [(15, vi (needV f n a)), (16, vb (needB f n a))] [(0, none)] [] trivial fun ac wd hS => ?_
   refine list_nil_seq ?_
   refine wp_region_seq ?_
   refine hS.opsC 19 [0, 0, fx 0 (vb true), 0, 1, 1, fx 1 (vb true), 70, 0, 1, 1, fx 1 (vb true), 70, 0, 1, 1, fx 1 (vb true), 70, 0] [3] fun _ => seg [(87, vb true)] [(0, none)] [.t true, .t true, .p ((vb ((needB f n a) == (needB f n a)) : Value) = vb true), .t true, .t true, .t true, .t true, .p ((vb (((needV f n a) : Int) == (needV f n a)) : Value) = vb true), .t true, .t true, .t true, .t true, .p ((vb ((fitB at_ ord f n a) == (fitB at_ ord f n a)) : Value) = vb true), .t true, .t true, .p ((vb (((fitV at_ ord f n a) : Int) == (fitV at_ ord f n a)) : Value) = vb true)] ⟨(congrArg Value.bool (by simp)), (congrArg Value.bool (beq_self_eq_true _)), (congrArg Value.bool (by simp)), (congrArg Value.bool (beq_self_eq_true _)), trivial⟩ fun ac wd hS => ?_
   refine hS.opsC 1 [1] [3, 87] fun _ => seg [(88, vi a)] [(0, none)] [.t true] trivial fun ac wd hS => ?_
   refine hS.callG true 58 #[vi a] (obj_Aligned a _  ) ?_
   rintro _ wd ⟨rfl, hF⟩
   refine ⟨vb (alB a), rfl, ?_⟩
   replace hS := (hS.to (hS.mem.keep0 hF)).put (d := 89) (v := vb (alB a)) (by decide)
   clear hF
   refine hS.opsC 1 [1] [87, 89] fun _ => seg [(90, vi a)] [(0, none)] [.t true] trivial fun ac wd hS => ?_
   refine hS.callG true 59 #[vi a] (ref14_Aligned a _  ) ?_
   rintro _ wd ⟨rfl, hF⟩
   refine ⟨vb (alB a), rfl, ?_⟩
   replace hS := (hS.to (hS.mem.keep0 hF)).put (d := 91) (v := vb (alB a)) (by decide)
   clear hF
   refine hS.opsC 3 [fx 1 (vb true), 70, 0] [] fun _ => seg [(8, vb true)] [(0, none)] [.t true, .t true, .p ((vb ((alB a) == (alB a)) : Value) = vb true)] ⟨(congrArg Value.bool (by simp)), trivial⟩ fun ac wd hS => ?_
   refine list_nil_seq ?_
   refine wp_ret ?_
   refine St.retC 0 hS (vb true) [] trivial fun hw => ?_
   refine ⟨retd rfl, hw.fr0⟩

set_option maxRecDepth 100000 in
set_option maxHeartbeats 1000000 in
theorem law14_ObjectNeeds (pg : Int) (f : Int) (n : Int) (a : Int) (w : World) (hh0 : HE.holds w 1 (.fn 0 64 dbT)) (hu : 0 ≤ pg ∧ pg ≤ 65535 ∧ 0 ≤ f ∧ f ≤ 65535) :
    Calls Tryd.prog 10 #[.int .u16 pg, .int .u16 f, vi n, vi a] w fun e w' => e = .returned (vb true) ∧ Fr w w' no no := by
 have him : 32 ≤ imax f 32 ∧ imax f 32 ≤ 65535 := by unfold imax; split <;> omega
 refine enter (args := [.int .u16 pg, .int .u16 f, vi n, vi a]) (D := no) (A := []) Tryd.func10 rfl 122 rfl [(1, .fn 0 64 dbT)] (WS.startL ⟨⟨rfl, hh0⟩, trivial⟩) fun ac hS => ?_
 refine hS.regS [0] [0, 1, 2, 3] fun _ => seg [] [(0, none)] [] trivial fun ac wd hS => ?_
 refine wp_seq ?_
 refine wp_region_seq ?_
 refine hS.call0 53 #[] 19 (law14_awake  _ (hS.mem.get 0 1 (.fn 0 64 dbT)) ) fun ac wd hS => ?_
 refine hS.opsC 1 [0] [0, 1, 2, 3] fun _ => seg [(20, vb false)] [(0, none)] [] trivial fun ac wd hS => ?_
 refine list_nil_seq ?_
 refine hS.condF ?_
 refine wp_skip ?_
 refine pop_then ?_
 refine wp_region_seq ?_
 refine hS.opsC 4 [0, 20, 0, 0] [0, 1, 2, 3] fun _ => seg [(23, vi f), (24, vi n), (25, vi a)] [(0, none)] [.p (fit .i64 f)] ⟨fit_i64 (by omega), trivial⟩ fun ac wd hS => ?_
 refine hS.call0 56 #[vi f, vi n, vi a] 26 (obj_Need f n a _  ) fun ac wd hS => ?_
 refine hS.opsC 5 [0, 0, 0, 0, 0] [0, 1, 2, 3] fun _ => seg [(9, vi (needV f n a)), (10, vb (needB f n a))] [(0, none)] [] trivial fun ac wd hS => ?_
 refine list_nil_seq ?_
 refine hS.regS [0, 20, 20, 0] [1, 2, 3, 9, 10] fun _ => seg [(11, vi (pg * 4096))] [(0, none)] [.p (fit .i64 (pg * 4096)), .p (fit .i64 pg)] ⟨fit_i64 (by omega), fit_i64 (by omega), trivial⟩ fun ac wd hS => ?_
 refine hS.regS [0, 20, 0, 0] [2, 3, 9, 10, 11] fun _ => seg [(12, vi (imax f 32))] [(0, none)] [.p (fit .i64 f)] ⟨fit_i64 (by omega), trivial⟩ fun ac wd hS => ?_
 refine wp_seq ?_
 refine hS.regS [0, 0] [2, 3, 9, 11, 12] fun _ => seg [(36, vb (!(needB f n a)))] [(0, none)] [] trivial fun ac wd hS => ?_
 refine hS.condC (!(needB f n a)) (fun hb1o hb1 => ?_) (fun hb1o hb1 => ?_)
 ·
  have hnb : needB f n a = false := by simpa using hb1
  obtain ⟨hk0, hkn⟩ := need_not hnb
  have hm10 : fitB (pg * 4096) 10 (pg * 4096 + imax f 32) n a = false := (fit_move (by omega)).1.trans (hkn 10 (by decide))
  refine wp_region_seq ?_
  refine hS.opsC 7 [0, 0, 0, 0, 20, 0, 0] [9] fun _ => seg [(39, .agg #[vi (pg * 4096), vi 10, vu 0, vi 0]), (42, vi ((pg * 4096) + (imax f 32))), (43, vi n), (44, vi a)] [(0, none)] [.p (fit .i64 ((pg * 4096) + (imax f 32)))] ⟨fit_i64 (by omega), trivial⟩ fun ac wd hS => ?_
  refine hS.call0 54 #[.agg #[vi (pg * 4096), vi 10, vu 0, vi 0], vi ((pg * 4096) + (imax f 32)), vi n, vi a] 45 (obj_Fit (pg * 4096) 10 0 0 ((pg * 4096) + (imax f 32)) n a _  (by first | assumption | omega | (simp_all; done) | (simp_all; omega))) fun ac wd hS => ?_
  refine hS.opsC 5 [0, 0, 0, 0, 0] [9] fun _ => seg [(14, vb (fitB (pg * 4096) 10 ((pg * 4096) + (imax f 32)) n a))] [(0, none)] [] trivial fun ac wd hS => ?_
  refine list_nil_seq ?_
  refine hS.regS [0, 0, 0, 3, 3, 80, 0] [] fun _ => seg [(8, vb ((!(fitB (pg * 4096) 10 ((pg * 4096) + (imax f 32)) n a)) && (((needV f n a) : Int) == 0)))] [(0, none)] [] trivial fun ac wd hS => ?_
  refine wp_ret ?_
  refine pop_then_ret ?_
  refine St.retC 0 hS (vb ((!(fitB (pg * 4096) 10 ((pg * 4096) + (imax f 32)) n a)) && (((needV f n a) : Int) == 0))) [] trivial fun hw => ?_
  refine ⟨retd (vbool ?_), hw.fr0⟩
  all_goals (first | rfl | (simp [hm10, hk0]; done) | (simp only [hb1, hx1, hlb]; simp [hpa]; omega))
 ·
  have hnb : needB f n a = true := by simpa using hb1
  obtain ⟨hn1, hn2, hn3, hn4⟩ := need_is hnb
  have hb1 : fitB (pg * 4096) (needV f n a) (pg * 4096 + imax f 32) n a = true := (fit_move (by omega)).1.trans hn3
  have hx1 : fitV (pg * 4096) (needV f n a) (pg * 4096 + imax f 32) n a = pg * 4096 + alUp (imax f 32 + 16) a := (fit_move (by omega)).2 hn3
  obtain ⟨hal, hsn⟩ := fit_in hn3
  obtain ⟨ha1, ha2, ha3⟩ := alB_in hal
  obtain ⟨hu1, hu2, hu3⟩ := alUp_facts (x := imax f 32 + 16) ha1
  have hpa : (pg * 4096 + alUp (imax f 32 + 16) a) % a = 0 := by (have h4 : (pg * 4096) % a = 0 := al_page hal (by omega)); rw [Int.add_emod, h4, hu3]; simp
  have hks := spanV_bd (needV f n a)
  have hn0 : 0 ≤ n := by (unfold fitB cHas at hn3; simp only [Bool.and_eq_true, decide_eq_true_eq] at hn3; omega)
  have hl1 : (needV f n a) = 0 ∨ fitB (pg * 4096) ((needV f n a) - 1) (pg * 4096 + imax f 32) n a = false := hn4.imp id (fun h => (fit_move (by omega)).1.trans h)
  have hlb : (((needV f n a) == 0) || (!(fitB (pg * 4096) ((needV f n a) - 1) (pg * 4096 + imax f 32) n a))) = true := by rcases hl1 with h | h; (rw [h]; rfl); (rw [h]; simp)
  refine wp_skip ?_
  refine pop_then ?_
  refine wp_region_seq ?_
  refine hS.opsC 8 [0, 0, 0, 0, 0, 20, 0, 0] [2, 3, 9, 11, 12] fun _ => seg [(57, .agg #[vi (pg * 4096), vi (needV f n a), vu 0, vi 0]), (60, vi ((pg * 4096) + (imax f 32))), (61, vi n), (62, vi a)] [(0, none)] [.p (fit .i64 ((pg * 4096) + (imax f 32)))] ⟨fit_i64 (by omega), trivial⟩ fun ac wd hS => ?_
  refine hS.call0 54 #[.agg #[vi (pg * 4096), vi (needV f n a), vu 0, vi 0], vi ((pg * 4096) + (imax f 32)), vi n, vi a] 63 (obj_Fit (pg * 4096) (needV f n a) 0 0 ((pg * 4096) + (imax f 32)) n a _  (by first | assumption | omega | (simp_all; done) | (simp_all; omega))) fun ac wd hS => ?_
  refine hS.opsC 5 [0, 0, 0, 0, 0] [2, 3, 9, 11, 12] fun _ => seg [(15, vi (fitV (pg * 4096) (needV f n a) ((pg * 4096) + (imax f 32)) n a)), (16, vb (fitB (pg * 4096) (needV f n a) ((pg * 4096) + (imax f 32)) n a))] [(0, none)] [] trivial fun ac wd hS => ?_
  refine list_nil_seq ?_
  refine wp_region_seq ?_
  refine hS.opsC 9 [0, 0, 20, 0, 0, 0, 20, 0, 0] [2, 3, 9, 11, 12, 15, 16] fun _ => seg [(70, .agg #[vi (pg * 4096), vi ((needV f n a) - 1), vu 0, vi 0]), (73, vi ((pg * 4096) + (imax f 32))), (74, vi n), (75, vi a)] [(0, none)] [.p (fit .i64 ((pg * 4096) + (imax f 32))), .p (fit .i64 ((needV f n a) - 1))] ⟨fit_i64 (by omega), fit_i64 (by omega), trivial⟩ fun ac wd hS => ?_
  refine hS.call0 54 #[.agg #[vi (pg * 4096), vi ((needV f n a) - 1), vu 0, vi 0], vi ((pg * 4096) + (imax f 32)), vi n, vi a] 76 (obj_Fit (pg * 4096) ((needV f n a) - 1) 0 0 ((pg * 4096) + (imax f 32)) n a _  (by first | assumption | omega | (simp_all; done) | (simp_all; omega))) fun ac wd hS => ?_
  refine hS.opsC 5 [0, 0, 0, 0, 0] [2, 3, 9, 11, 12, 15, 16] fun _ => seg [(18, vb (fitB (pg * 4096) ((needV f n a) - 1) ((pg * 4096) + (imax f 32)) n a))] [(0, none)] [] trivial fun ac wd hS => ?_
  refine list_nil_seq ?_
  refine wp_region_seq ?_
  refine hS.opsC 34 [0, 0, 3, 3, 3, 3, 3, 83, 80, 0, 3, 3, 23, 3, 80, 0, 3, 3, 3, 23, 23, 3, 80, 0, 3, 3, 3, 23, 23, 3, 23, 3, 80, 0] [2, 9, 11, 15] fun _ => seg [(112, vb (((((fitB (pg * 4096) (needV f n a) ((pg * 4096) + (imax f 32)) n a) && ((((needV f n a) : Int) == 0) || (!(fitB (pg * 4096) ((needV f n a) - 1) ((pg * 4096) + (imax f 32)) n a)))) && ((((fitV (pg * 4096) (needV f n a) ((pg * 4096) + (imax f 32)) n a) % a) : Int) == 0)) && (decide (((((pg * 4096) + (imax f 32)) + 16) : Int) ≤ (fitV (pg * 4096) (needV f n a) ((pg * 4096) + (imax f 32)) n a)))) && (decide (((fitV (pg * 4096) (needV f n a) ((pg * 4096) + (imax f 32)) n a) : Int) < ((((pg * 4096) + (imax f 32)) + 16) + a)))))] [(0, none)] [.p (((((((fitB (pg * 4096) (needV f n a) ((pg * 4096) + (imax f 32)) n a) && ((((needV f n a) : Int) == 0) || (!(fitB (pg * 4096) ((needV f n a) - 1) ((pg * 4096) + (imax f 32)) n a)))) && ((((fitV (pg * 4096) (needV f n a) ((pg * 4096) + (imax f 32)) n a) % a) : Int) == 0)) && (decide (((((pg * 4096) + (imax f 32)) + 16) : Int) ≤ (fitV (pg * 4096) (needV f n a) ((pg * 4096) + (imax f 32)) n a)))) = true) ∧ True) → AllP [fit .i64 ((((pg * 4096) + (imax f 32)) + 16) + a)]), .p (((((((fitB (pg * 4096) (needV f n a) ((pg * 4096) + (imax f 32)) n a) && ((((needV f n a) : Int) == 0) || (!(fitB (pg * 4096) ((needV f n a) - 1) ((pg * 4096) + (imax f 32)) n a)))) && ((((fitV (pg * 4096) (needV f n a) ((pg * 4096) + (imax f 32)) n a) % a) : Int) == 0)) && (decide (((((pg * 4096) + (imax f 32)) + 16) : Int) ≤ (fitV (pg * 4096) (needV f n a) ((pg * 4096) + (imax f 32)) n a)))) = true) ∧ True) → AllP [fit .i64 (((pg * 4096) + (imax f 32)) + 16)]), .p (((((((fitB (pg * 4096) (needV f n a) ((pg * 4096) + (imax f 32)) n a) && ((((needV f n a) : Int) == 0) || (!(fitB (pg * 4096) ((needV f n a) - 1) ((pg * 4096) + (imax f 32)) n a)))) && ((((fitV (pg * 4096) (needV f n a) ((pg * 4096) + (imax f 32)) n a) % a) : Int) == 0)) && (decide (((((pg * 4096) + (imax f 32)) + 16) : Int) ≤ (fitV (pg * 4096) (needV f n a) ((pg * 4096) + (imax f 32)) n a)))) = true) ∧ True) → AllP [fit .i64 ((pg * 4096) + (imax f 32))]), .p ((((((fitB (pg * 4096) (needV f n a) ((pg * 4096) + (imax f 32)) n a) && ((((needV f n a) : Int) == 0) || (!(fitB (pg * 4096) ((needV f n a) - 1) ((pg * 4096) + (imax f 32)) n a)))) && ((((fitV (pg * 4096) (needV f n a) ((pg * 4096) + (imax f 32)) n a) % a) : Int) == 0)) = true) ∧ True) → AllP [fit .i64 (((pg * 4096) + (imax f 32)) + 16)]), .p ((((((fitB (pg * 4096) (needV f n a) ((pg * 4096) + (imax f 32)) n a) && ((((needV f n a) : Int) == 0) || (!(fitB (pg * 4096) ((needV f n a) - 1) ((pg * 4096) + (imax f 32)) n a)))) && ((((fitV (pg * 4096) (needV f n a) ((pg * 4096) + (imax f 32)) n a) % a) : Int) == 0)) = true) ∧ True) → AllP [fit .i64 ((pg * 4096) + (imax f 32))]), .p (((((fitB (pg * 4096) (needV f n a) ((pg * 4096) + (imax f 32)) n a) && ((((needV f n a) : Int) == 0) || (!(fitB (pg * 4096) ((needV f n a) - 1) ((pg * 4096) + (imax f 32)) n a)))) = true) ∧ True) → AllP [(a : Int) ≠ 0 ∧ Int.tmod (fitV (pg * 4096) (needV f n a) ((pg * 4096) + (imax f 32)) n a) a = (fitV (pg * 4096) (needV f n a) ((pg * 4096) + (imax f 32)) n a) % a])] ⟨(fun ⟨hc0, _⟩ => by replace hc0 := nrm hc0; exact ⟨fit_i64 (by omega), trivial⟩), (fun ⟨hc0, _⟩ => by replace hc0 := nrm hc0; exact ⟨fit_i64 (by omega), trivial⟩), (fun ⟨hc0, _⟩ => by replace hc0 := nrm hc0; exact ⟨fit_i64 (by omega), trivial⟩), (fun ⟨hc0, _⟩ => by replace hc0 := nrm hc0; exact ⟨fit_i64 (by omega), trivial⟩), (fun ⟨hc0, _⟩ => by replace hc0 := nrm hc0; exact ⟨fit_i64 (by omega), trivial⟩), (fun ⟨hc0, _⟩ => by replace hc0 := nrm hc0; exact ⟨rem2 (by omega) (by omega), trivial⟩), trivial⟩ fun ac wd hS => ?_
  have hg2o : (((((fitB (pg * 4096) (needV f n a) ((pg * 4096) + (imax f 32)) n a) && ((((needV f n a) : Int) == 0) || (!(fitB (pg * 4096) ((needV f n a) - 1) ((pg * 4096) + (imax f 32)) n a)))) && ((((fitV (pg * 4096) (needV f n a) ((pg * 4096) + (imax f 32)) n a) % a) : Int) == 0)) && (decide (((((pg * 4096) + (imax f 32)) + 16) : Int) ≤ (fitV (pg * 4096) (needV f n a) ((pg * 4096) + (imax f 32)) n a)))) && (decide (((fitV (pg * 4096) (needV f n a) ((pg * 4096) + (imax f 32)) n a) : Int) < ((((pg * 4096) + (imax f 32)) + 16) + a)))) = true := by (simp only [hb1, hx1, hlb]; simp [hpa]; omega)
  replace hS := hS.fix 112 (vb true) (congrArg Value.bool hg2o)
  refine hS.opsC 5 [1, 1, 21, 1, 1] [112] fun _ => seg [(115, vi ((fitV (pg * 4096) (needV f n a) ((pg * 4096) + (imax f 32)) n a) + n)), (116, vi (pg * 4096)), (117, vi (needV f n a))] [(0, none)] [.t true, .t true, .t true, .p (fit .i64 ((fitV (pg * 4096) (needV f n a) ((pg * 4096) + (imax f 32)) n a) + n)), .t true, .t true] ⟨fit_i64 (by omega), trivial⟩ fun ac wd hS => ?_
  refine hS.callG true 60 #[vi (needV f n a)] (size_Span (needV f n a) _  ) ?_
  rintro _ wd ⟨rfl, hF⟩
  refine ⟨vi (spanV (needV f n a)), rfl, ?_⟩
  replace hS := (hS.to (hS.mem.keep0 hF)).put (d := 118) (v := vi (spanV (needV f n a))) (by decide)
  clear hF
  refine hS.opsC 4 [21, 1, 70, 0] [] fun _ => seg [(8, vb (decide ((((fitV (pg * 4096) (needV f n a) ((pg * 4096) + (imax f 32)) n a) + n) : Int) ≤ ((pg * 4096) + (spanV (needV f n a))))))] [(0, none)] [.t true, .t true, .t true, .p (fit .i64 ((pg * 4096) + (spanV (needV f n a))))] ⟨fit_i64 (by omega), trivial⟩ fun ac wd hS => ?_
  refine list_nil_seq ?_
  refine wp_ret ?_
  refine St.retC 0 hS (vb (decide ((((fitV (pg * 4096) (needV f n a) ((pg * 4096) + (imax f 32)) n a) + n) : Int) ≤ ((pg * 4096) + (spanV (needV f n a)))))) [] trivial fun hw => ?_
  refine ⟨retd (vbool ?_), hw.fr0⟩
  all_goals (first | rfl | (simp [hm10, hk0]; done) | (simp only [hb1, hx1, hlb]; simp [hpa]; omega))

end Go.Proofs.YtghohcgbmceiaaaDoor.K
