/-
  Walks, printed by w2.py.
-/
import Derived.Test.YtdjhdcaanmkblaaDoorPy
import Derived.Test.YtdjhdcaanmkblaaDoorPz
import Derived.Test.YtdjhdcaanmkblaaDoorProg
namespace Go.Proofs.YtdjhdcaanmkblaaDoor.K
set_option linter.unusedVariables false
set_option linter.unusedSimpArgs false

set_option maxRecDepth 100000 in
set_option maxHeartbeats 1000000 in
theorem ref04_Within (g : Nat) (u : Nat) (n : Nat) (cp : Nat) (rf : Int) (o_ : Int) (z : Int) (a : Int) (k : Int) (m : AM) (w : World) (hh0 : HE.holds w g (.fn u (u + n) (strs (pgS m) u))) (hcap : m.cap = n) (hn : n ≤ 1048576) (ho : 0 ≤ o_ ∧ 0 ≤ z ∧ o_ + z ≤ 4294967296) :
    Calls Tryd.prog 120 #[.agg #[sc g u n cp, vi rf], .agg #[vi o_, vi z], vi a, vi k] w fun e w' => e = .returned (vb (wiM m o_ z a k)) ∧ Fr w w' no no := by
 refine enter (args := [.agg #[sc g u n cp, vi rf], .agg #[vi o_, vi z], vi a, vi k]) (D := no) (A := []) Tryd.func120 rfl 38 rfl [(g, .fn u (u + n) (strs (pgS m) u))] (WS.startL ⟨⟨rfl, hh0⟩, trivial⟩) fun ac hS => ?_
 refine hS.regS [0, 0, 0] [2, 3] fun ν1 => seg [(4, pt (ν1 0) 0), (5, pt (ν1 1) 0)] [(0, none), (1, some ((ν1 0), .cells [sc g u n cp, vi rf] 30)), (2, some ((ν1 1), .cells [vi o_, vi z] 61))] [] trivial fun ac wd hS => ?_
 refine wp_region_seq ?_
 refine hS.opsC 21 [0, 0, 0, 3, 3, 80, 0, 3, 3, 203, 3, 80, 0, 3, 3, 203, 3, 23, 3, 80, 0] [2, 3, 4, 5] fun _ => seg [(29, vb ((((decide ((0 : Int) ≤ a)) && (decide ((0 : Int) ≤ k))) && (decide ((k : Int) ≤ z))) && (decide ((a : Int) ≤ (z - k)))))] [(0, none), (1, none), (2, none)] [.p ((((((decide ((0 : Int) ≤ a)) && (decide ((0 : Int) ≤ k))) && (decide ((k : Int) ≤ z))) = true) ∧ True) → AllP [fit .i64 (z - k)]), .p ((((((decide ((0 : Int) ≤ a)) && (decide ((0 : Int) ≤ k))) && (decide ((k : Int) ≤ z))) = true) ∧ True) → AllP [((ν1 1) : Nat) = (ν1 1)]), .p (((((decide ((0 : Int) ≤ a)) && (decide ((0 : Int) ≤ k))) = true) ∧ True) → AllP [((ν1 1) : Nat) = (ν1 1)])] ⟨(fun ⟨hc0, _⟩ => by replace hc0 := nrm hc0; exact ⟨fit_i64 (by omega), trivial⟩), (fun ⟨hc0, _⟩ => by replace hc0 := nrm hc0; exact ⟨rfl, trivial⟩), (fun ⟨hc0, _⟩ => by replace hc0 := nrm hc0; exact ⟨rfl, trivial⟩), trivial⟩ fun ac wd hS => ?_
 rcases Bool.eq_false_or_eq_true ((((decide ((0 : Int) ≤ a)) && (decide ((0 : Int) ≤ k))) && (decide ((k : Int) ≤ z))) && (decide ((a : Int) ≤ (z - k)))) with hg1o | hg1o
 ·
  have hg1 := nrm hg1o
  replace hS := hS.fix 29 (vb true) (congrArg Value.bool hg1o)
  refine hS.opsC 6 [101, 1, 201, 1, 21, 1] [29] fun _ => seg [(30, .agg #[sc g u n cp, vi rf]), (34, vi (o_ + a)), (35, vi k)] [(0, none)] [.t true, .t true, .p (fit .i64 (o_ + a)), .t true, .t true, .e (ν1 1), .t true, .t true, .e (ν1 0), .e (ν1 0)] ⟨fit_i64 (by omega), trivial⟩ fun ac wd hS => ?_
  refine hS.callG true 24 #[.agg #[sc g u n cp, vi rf], vi (o_ + a), vi k] (ref03_ThereM g u n cp rf (o_ + a) k m _ (hS.mem.get 0 g (.fn u (u + n) (strs (pgS m) u))) (by first | assumption | omega | (simp_all; done) | (simp_all; omega)) (by first | assumption | omega | (simp_all; done) | (simp_all; omega))) ?_
  rintro _ wd ⟨rfl, hF⟩
  refine ⟨vb (thr m (o_ + a) k), rfl, ?_⟩
  replace hS := (hS.to (hS.mem.keep0 hF)).put (d := 36) (v := vb (thr m (o_ + a) k)) (by decide)
  clear hF
  refine hS.opsC 2 [70, 0] [] fun _ => seg [(8, vb (thr m (o_ + a) k))] [] [.t true] trivial fun ac wd hS => ?_
  refine list_nil_seq ?_
  refine wp_ret ?_
  refine St.retC 0 hS (vb (thr m (o_ + a) k)) [] trivial fun hw => ?_
  refine ⟨retd (vbool ?_), hw.fr0⟩
  all_goals (first | rfl | exact wi_eq | exact wi_at (by omega) | exact wi_out (by omega) | (simp_all; done))
 ·
  have hg1 := nrm hg1o
  replace hS := hS.fix 29 (vb false) (congrArg Value.bool hg1o)
  refine hS.opsC 9 [2, 2, 2, 2, 2, 2, 2, 60, 0] [] fun _ => seg [(8, vb false)] [] [.t false, .t false, .t false, .t false, .t false, .t false, .t false, .t false] trivial fun ac wd hS => ?_
  refine list_nil_seq ?_
  refine wp_ret ?_
  refine St.retC 0 hS (vb false) [] trivial fun hw => ?_
  refine ⟨retd (vbool ?_), hw.fr0⟩
  all_goals (first | rfl | exact wi_eq | exact wi_at (by omega) | exact wi_out (by omega) | (simp_all; done))

set_option maxRecDepth 100000 in
set_option maxHeartbeats 1000000 in
theorem ref04_Part (g : Nat) (u : Nat) (n : Nat) (cp : Nat) (rf : Int) (o_ : Int) (z : Int) (a : Int) (k : Int) (m : AM) (w : World) (hh0 : HE.holds w g (.fn u (u + n) (strs (pgS m) u))) (hcap : m.cap = n) (hn : n ≤ 1048576) (ho : 0 ≤ o_ ∧ 0 ≤ z ∧ o_ + z ≤ 4294967296) :
    Calls Tryd.prog 75 #[.agg #[sc g u n cp, vi rf], .agg #[vi o_, vi z], vi a, vi k] w fun e w' => e = .returned (.tuple #[.agg #[vi (paA m o_ z a k), vi (paN m o_ z a k)], vi (vbyE m o_ z a k)]) ∧ Fr w w' no no := by
 refine enter (args := [.agg #[sc g u n cp, vi rf], .agg #[vi o_, vi z], vi a, vi k]) (D := no) (A := []) Tryd.func75 rfl 23 rfl [(g, .fn u (u + n) (strs (pgS m) u))] (WS.startL ⟨⟨rfl, hh0⟩, trivial⟩) fun ac hS => ?_
 refine hS.regS [0, 0, 0, 0] [2, 3] fun ν1 => seg [(4, pt (ν1 0) 0), (5, pt (ν1 1) 0), (8, pt (ν1 2) 0)] [(0, none), (1, some ((ν1 0), .cells [sc g u n cp, vi rf] 30)), (2, some ((ν1 1), .cells [vi o_, vi z] 61)), (3, some ((ν1 2), .cells [vi 0, vi 0] 61))] [] trivial fun ac wd hS => ?_
 refine wp_seq ?_
 refine wp_region_seq ?_
 refine hS.opsC 4 [100, 200, 0, 0] [2, 3, 5, 8] fun _ => seg [(10, .agg #[sc g u n cp, vi rf]), (11, .agg #[vi o_, vi z]), (12, vi a), (13, vi k)] [(0, none), (2, none), (3, none)] [.e (ν1 1), .e (ν1 1), .e (ν1 0), .e (ν1 0)] trivial fun ac wd hS => ?_
 refine hS.call0 120 #[.agg #[sc g u n cp, vi rf], .agg #[vi o_, vi z], vi a, vi k] 14 (ref04_Within g u n cp rf o_ z a k m _ (hS.mem.get 0 g (.fn u (u + n) (strs (pgS m) u))) (by first | assumption | omega | (simp_all; done) | (simp_all; omega)) (by first | assumption | omega | (simp_all; done) | (simp_all; omega)) (by first | assumption | omega | (simp_all; done) | (simp_all; omega))) fun ac wd hS => ?_
 refine hS.opsC 1 [0] [2, 3, 5, 8] fun _ => seg [(15, vb (!(wiM m o_ z a k)))] [(1, none), (2, none)] [] trivial fun ac wd hS => ?_
 refine list_nil_seq ?_
 refine hS.condC (!(wiM m o_ z a k)) (fun hb1o hb1 => ?_) (fun hb1o hb1 => ?_)
 ·
  have hxn : wiM m o_ z a k = false := by simpa using hb1o
  refine hS.regS [0, 100, 0] [8] fun _ => seg [(9, vi 3)] [(1, none)] [.e (ν1 2), .e (ν1 2)] trivial fun ac wd hS => ?_
  refine wp_ret ?_
  refine pop_then_ret ?_
  refine St.retC 0 hS (.tuple #[.agg #[vi 0, vi 0], vi 3]) [.e (ν1 2), .e (ν1 2)] trivial fun hw => ?_
  refine ⟨retd (tuple2 (agg2 (vint ?_) (vint ?_)) (vint ?_)), hw.fr0⟩
  all_goals (first | rfl | exact (pa_in hx).1 | exact (pa_in hx).2 | exact (byE_in hx).symm | exact (pa_no hxn).1 | exact (pa_no hxn).2 | exact (byE_no hxn).symm)
 ·
  have hx : wiM m o_ z a k = true := by simpa using hb1o
  obtain ⟨hx1, hx2⟩ := wi_in hx
  obtain ⟨hxa, hxb, hxc, hxd⟩ := vch_in hx1
  refine wp_skip ?_
  refine pop_then ?_
  refine hS.regS [0, 0, 0, 20, 0, 0, 100, 0] [8] fun _ => seg [(9, vi 0)] [(1, some ((ν1 2), .cells [vi (o_ + a), vi k] 61))] [.e (ν1 2), .e (ν1 2), .p (fit .i64 (o_ + a)), .e (ν1 1)] ⟨fit_i64 (by omega), trivial⟩ fun ac wd hS => ?_
  refine wp_ret ?_
  refine St.retC 0 hS (.tuple #[.agg #[vi (o_ + a), vi k], vi 0]) [.e (ν1 2), .e (ν1 2)] trivial fun hw => ?_
  refine ⟨retd (tuple2 (agg2 (vint ?_) (vint ?_)) (vint ?_)), hw.fr0⟩
  all_goals (first | rfl | exact (pa_in hx).1 | exact (pa_in hx).2 | exact (byE_in hx).symm | exact (pa_no hxn).1 | exact (pa_no hxn).2 | exact (byE_no hxn).symm)

set_option maxRecDepth 100000 in
set_option maxHeartbeats 1000000 in
theorem ref04_Load (g : Nat) (u : Nat) (n : Nat) (cp : Nat) (rf : Int) (o_ : Int) (z : Int) (a : Int) (k : Int) (m : AM) (w : World) (hh0 : HE.holds w g (.fn u (u + n) (strs (pgS m) u))) (hcap : m.cap = n) (hn : n ≤ 1048576) (ho : 0 ≤ o_ ∧ 0 ≤ z ∧ o_ + z ≤ 4294967296) :
    Calls Tryd.prog 76 #[.agg #[sc g u n cp, vi rf], .agg #[vi o_, vi z], vi a, vi k] w fun e w' => e = .returned (.tuple #[vu (vldV m o_ z a k), vi (vldE m o_ z a k)]) ∧ Fr w w' no no := by
 refine enter (args := [.agg #[sc g u n cp, vi rf], .agg #[vi o_, vi z], vi a, vi k]) (D := no) (A := []) Tryd.func76 rfl 38 rfl [(g, .fn u (u + n) (strs (pgS m) u))] (WS.startL ⟨⟨rfl, hh0⟩, trivial⟩) fun ac hS => ?_
 refine hS.regS [0, 0, 0, 0] [2, 3] fun ν1 => seg [(4, pt (ν1 0) 0), (5, pt (ν1 1) 0)] [(0, none), (1, some ((ν1 0), .cells [sc g u n cp, vi rf] 30)), (2, some ((ν1 1), .cells [vi o_, vi z] 61))] [] trivial fun ac wd hS => ?_
 refine wp_region_seq ?_
 refine hS.opsC 2 [100, 0] [2, 3, 4, 5] fun _ => seg [(13, .agg #[sc g u n cp, vi rf]), (14, vi k)] [(0, none), (1, none), (2, none)] [.e (ν1 0), .e (ν1 0)] trivial fun ac wd hS => ?_
 refine hS.call0 53 #[.agg #[sc g u n cp, vi rf], vi 0, vi k] 15 (ref03_LoadM g u n cp rf 0 k m _ (hS.mem.get 0 g (.fn u (u + n) (strs (pgS m) u))) (by first | assumption | omega | (simp_all; done) | (simp_all; omega)) (by first | assumption | omega | (simp_all; done) | (simp_all; omega))) fun ac wd hS => ?_
 refine hS.opsC 5 [0, 0, 0, 0, 0] [2, 3, 4, 5] fun _ => seg [(11, vi (ldE m 0 k))] [(0, none), (1, none), (2, none)] [] trivial fun ac wd hS => ?_
 refine list_nil_seq ?_
 refine wp_seq ?_
 refine hS.regS [0, 0] [2, 3, 4, 5] fun _ => seg [(19, vb (((ldE m 0 k) : Int) == 2))] [(0, none), (1, none), (2, none)] [] trivial fun ac wd hS => ?_
 refine hS.condC (((ldE m 0 k) : Int) == 2) (fun hb1o hb1 => ?_) (fun hb1o hb1 => ?_)
 ·
  have hwh : wholeB k = false := ld_two hb1
  refine hS.regS [0, 0] [] fun _ => seg [(8, vu 0), (9, vi 2)] [] [] trivial fun ac wd hS => ?_
  refine wp_ret ?_
  refine pop_then_ret ?_
  refine St.retC 0 hS (.tuple #[vu 0, vi 2]) [] trivial fun hw => ?_
  refine ⟨retd (tuple2 (vint ?_) (vint ?_)), hw.fr0⟩
  all_goals (first | rfl | exact (vl_1 hwh).1 | exact (vl_1 hwh).2 | exact (vl_2 hwh hxn).1 | exact (vl_2 hwh hxn).2 | exact (vl_3 hwh hx).1 | exact (vl_3 hwh hx).2)
 ·
  have hwh : wholeB k = true := ld_not hb1
  refine wp_skip ?_
  refine pop_then ?_
  refine wp_seq ?_
  refine wp_region_seq ?_
  refine hS.opsC 4 [100, 200, 0, 0] [2, 3, 4, 5] fun _ => seg [(20, .agg #[sc g u n cp, vi rf]), (21, .agg #[vi o_, vi z]), (22, vi a), (23, vi k)] [(0, none), (1, none), (2, none)] [.e (ν1 1), .e (ν1 1), .e (ν1 0), .e (ν1 0)] trivial fun ac wd hS => ?_
  refine hS.call0 120 #[.agg #[sc g u n cp, vi rf], .agg #[vi o_, vi z], vi a, vi k] 24 (ref04_Within g u n cp rf o_ z a k m _ (hS.mem.get 0 g (.fn u (u + n) (strs (pgS m) u))) (by first | assumption | omega | (simp_all; done) | (simp_all; omega)) (by first | assumption | omega | (simp_all; done) | (simp_all; omega)) (by first | assumption | omega | (simp_all; done) | (simp_all; omega))) fun ac wd hS => ?_
  refine hS.opsC 1 [0] [2, 3, 4, 5] fun _ => seg [(25, vb (!(wiM m o_ z a k)))] [(0, none), (1, none), (2, none)] [] trivial fun ac wd hS => ?_
  refine list_nil_seq ?_
  refine hS.condC (!(wiM m o_ z a k)) (fun hb2o hb2 => ?_) (fun hb2o hb2 => ?_)
  ·
   have hxn : wiM m o_ z a k = false := by simpa using hb2o
   refine hS.regS [0, 0] [] fun _ => seg [(8, vu 0), (9, vi 3)] [] [] trivial fun ac wd hS => ?_
   refine wp_ret ?_
   refine pop_then_ret ?_
   refine St.retC 0 hS (.tuple #[vu 0, vi 3]) [] trivial fun hw => ?_
   refine ⟨retd (tuple2 (vint ?_) (vint ?_)), hw.fr0⟩
   all_goals (first | rfl | exact (vl_1 hwh).1 | exact (vl_1 hwh).2 | exact (vl_2 hwh hxn).1 | exact (vl_2 hwh hxn).2 | exact (vl_3 hwh hx).1 | exact (vl_3 hwh hx).2)
  ·
   have hx : wiM m o_ z a k = true := by simpa using hb2o
   obtain ⟨hx1, hx2⟩ := wi_in hx
   obtain ⟨hxa, hxb, hxc, hxd⟩ := vch_in hx1
   refine wp_skip ?_
   refine pop_then ?_
   refine wp_region_seq ?_
   refine hS.opsC 6 [100, 0, 200, 0, 20, 0] [] fun _ => seg [(27, .agg #[sc g u n cp, vi rf]), (31, vi (o_ + a)), (32, vi k)] [(0, none)] [.p (fit .i64 (o_ + a)), .e (ν1 1), .e (ν1 0), .e (ν1 0)] ⟨fit_i64 (by omega), trivial⟩ fun ac wd hS => ?_
   refine hS.call0 53 #[.agg #[sc g u n cp, vi rf], vi (o_ + a), vi k] 33 (ref03_LoadM g u n cp rf (o_ + a) k m _ (hS.mem.get 0 g (.fn u (u + n) (strs (pgS m) u))) (by first | assumption | omega | (simp_all; done) | (simp_all; omega)) (by first | assumption | omega | (simp_all; done) | (simp_all; omega))) fun ac wd hS => ?_
   refine hS.opsC 5 [0, 0, 0, 0, 0] [] fun _ => seg [(10, vu (ldV m (o_ + a) k)), (11, vi (ldE m (o_ + a) k))] [] [] trivial fun ac wd hS => ?_
   refine list_nil_seq ?_
   refine hS.regS [0, 0, 0, 0] [] fun _ => seg [(8, vu (ldV m (o_ + a) k)), (9, vi (ldE m (o_ + a) k))] [] [] trivial fun ac wd hS => ?_
   refine wp_ret ?_
   refine St.retC 0 hS (.tuple #[vu (ldV m (o_ + a) k), vi (ldE m (o_ + a) k)]) [] trivial fun hw => ?_
   refine ⟨retd (tuple2 (vint ?_) (vint ?_)), hw.fr0⟩
   all_goals (first | rfl | exact (vl_1 hwh).1 | exact (vl_1 hwh).2 | exact (vl_2 hwh hxn).1 | exact (vl_2 hwh hxn).2 | exact (vl_3 hwh hx).1 | exact (vl_3 hwh hx).2)

set_option maxRecDepth 100000 in
set_option maxHeartbeats 1000000 in
theorem ref04_Bytes (g : Nat) (u : Nat) (n : Nat) (cp : Nat) (rf : Int) (o_ : Int) (z : Int) (a : Int) (k : Int) (m : AM) (w : World) (hh0 : HE.holds w g (.fn u (u + n) (strs (pgS m) u))) (hcap : m.cap = n) (hn : n ≤ 1048576) (ho : 0 ≤ o_ ∧ 0 ≤ z ∧ o_ + z ≤ 4294967296) :
    Calls Tryd.prog 79 #[.agg #[sc g u n cp, vi rf], .agg #[vi o_, vi z], vi a, vi k] w fun e w' => e = .returned (.tuple #[.string (vbyS m o_ z a k), vi (vbyE m o_ z a k)]) ∧ Fr w w' no no := by
 refine enter (args := [.agg #[sc g u n cp, vi rf], .agg #[vi o_, vi z], vi a, vi k]) (D := no) (A := []) Tryd.func79 rfl 25 rfl [(g, .fn u (u + n) (strs (pgS m) u))] (WS.startL ⟨⟨rfl, hh0⟩, trivial⟩) fun ac hS => ?_
 refine hS.regS [0, 0, 0, 0] [2, 3] fun ν1 => seg [(4, pt (ν1 0) 0), (5, pt (ν1 1) 0)] [(0, none), (1, some ((ν1 0), .cells [sc g u n cp, vi rf] 30)), (2, some ((ν1 1), .cells [vi o_, vi z] 61))] [] trivial fun ac wd hS => ?_
 refine wp_seq ?_
 refine wp_region_seq ?_
 refine hS.opsC 4 [100, 200, 0, 0] [2, 3, 4, 5] fun _ => seg [(10, .agg #[sc g u n cp, vi rf]), (11, .agg #[vi o_, vi z]), (12, vi a), (13, vi k)] [(0, none), (1, none), (2, none)] [.e (ν1 1), .e (ν1 1), .e (ν1 0), .e (ν1 0)] trivial fun ac wd hS => ?_
 refine hS.call0 120 #[.agg #[sc g u n cp, vi rf], .agg #[vi o_, vi z], vi a, vi k] 14 (ref04_Within g u n cp rf o_ z a k m _ (hS.mem.get 0 g (.fn u (u + n) (strs (pgS m) u))) (by first | assumption | omega | (simp_all; done) | (simp_all; omega)) (by first | assumption | omega | (simp_all; done) | (simp_all; omega)) (by first | assumption | omega | (simp_all; done) | (simp_all; omega))) fun ac wd hS => ?_
 refine hS.opsC 1 [0] [2, 3, 4, 5] fun _ => seg [(15, vb (!(wiM m o_ z a k)))] [(0, none), (1, none), (2, none)] [] trivial fun ac wd hS => ?_
 refine list_nil_seq ?_
 refine hS.condC (!(wiM m o_ z a k)) (fun hb1o hb1 => ?_) (fun hb1o hb1 => ?_)
 ·
  have hxn : wiM m o_ z a k = false := by simpa using hb1o
  refine hS.regS [0, 0] [] fun _ => seg [(8, .string (⟨#[]⟩ : ByteArray)), (9, vi 3)] [] [] trivial fun ac wd hS => ?_
  refine wp_ret ?_
  refine pop_then_ret ?_
  refine St.retC 0 hS (.tuple #[.string (⟨#[]⟩ : ByteArray), vi 3]) [] trivial fun hw => ?_
  refine ⟨retd (tuple2 (vstr ?_) (vint ?_)), hw.fr0⟩
  all_goals (first | rfl | exact byS_no hxn | exact (byE_no hxn).symm | exact byS_in hx | exact by_chk hx)
 ·
  have hx : wiM m o_ z a k = true := by simpa using hb1o
  obtain ⟨hx1, hx2⟩ := wi_in hx
  obtain ⟨hxa, hxb, hxc, hxd⟩ := vch_in hx1
  refine wp_skip ?_
  refine pop_then ?_
  refine wp_region_seq ?_
  refine hS.opsC 6 [100, 0, 200, 0, 20, 0] [] fun _ => seg [(16, .agg #[sc g u n cp, vi rf]), (20, vi (o_ + a)), (21, vi k)] [(0, none)] [.p (fit .i64 (o_ + a)), .e (ν1 1), .e (ν1 0), .e (ν1 0)] ⟨fit_i64 (by omega), trivial⟩ fun ac wd hS => ?_
  refine hS.call0 55 #[.agg #[sc g u n cp, vi rf], vi (o_ + a), vi k] 22 (ref03_BytesM g u n cp rf (o_ + a) k m _ (hS.mem.get 0 g (.fn u (u + n) (strs (pgS m) u))) (by first | assumption | omega | (simp_all; done) | (simp_all; omega)) (by first | assumption | omega | (simp_all; done) | (simp_all; omega))) fun ac wd hS => ?_
  refine hS.opsC 4 [0, 0, 0, 0] [] fun _ => seg [(8, .string (bytS m (o_ + a) k)), (9, vi (chkE m (o_ + a) k))] [] [] trivial fun ac wd hS => ?_
  refine list_nil_seq ?_
  refine wp_ret ?_
  refine St.retC 0 hS (.tuple #[.string (bytS m (o_ + a) k), vi (chkE m (o_ + a) k)]) [] trivial fun hw => ?_
  refine ⟨retd (tuple2 (vstr ?_) (vint ?_)), hw.fr0⟩
  all_goals (first | rfl | exact byS_no hxn | exact (byE_no hxn).symm | exact byS_in hx | exact by_chk hx)

set_option maxRecDepth 100000 in
set_option maxHeartbeats 1000000 in
theorem ref04_Put (g : Nat) (u : Nat) (n : Nat) (cp : Nat) (rf : Int) (o_ : Int) (z : Int) (a : Int) (s : ByteArray) (m : AM) (w : World) (hh0 : HE.holds w g (.fn u (u + n) (strs (pgS m) u))) (hcap : m.cap = n) (hn : n ≤ 1048576) (ho : 0 ≤ o_ ∧ 0 ≤ z ∧ o_ + z ≤ 4294967296) :
    Calls Tryd.prog 81 #[.agg #[sc g u n cp, vi rf], .agg #[vi o_, vi z], vi a, .string s] w fun e w' => ∃ (g2 : Nat) (u2 : Nat) (cp2 : Nat), e = .returned (.tuple #[.agg #[sc g2 u2 n cp2, vi rf], vi (vptE m o_ z a s)]) ∧ (g2 = g ∨ w.heap.size ≤ g2) ∧ HE.holds w' g2 (.fn u2 (u2 + n) (strs (pgS (vptM m o_ z a s)) u2)) ∧ Fr w w' no no := by
 refine enter (args := [.agg #[sc g u n cp, vi rf], .agg #[vi o_, vi z], vi a, .string s]) (D := no) (A := []) Tryd.func81 rfl 27 rfl [(g, .fn u (u + n) (strs (pgS m) u))] (WS.startL ⟨⟨rfl, hh0⟩, trivial⟩) fun ac hS => ?_
 refine hS.regS [0, 0, 0, 0] [2, 3] fun ν1 => seg [(4, pt (ν1 0) 0), (5, pt (ν1 1) 0), (8, pt (ν1 2) 0)] [(0, none), (1, some ((ν1 0), .cells [sc g u n cp, vi rf] 30)), (2, some ((ν1 1), .cells [vi o_, vi z] 61)), (3, some ((ν1 2), .cells [vnil, vi 0] 30))] [] trivial fun ac wd hS => ?_
 refine wp_seq ?_
 refine wp_region_seq ?_
 refine hS.opsC 5 [100, 200, 0, 0, 0] [2, 3, 4, 5, 8] fun _ => seg [(10, .agg #[sc g u n cp, vi rf]), (11, .agg #[vi o_, vi z]), (12, vi a), (14, vi ((ByteArray.size s : Nat) : Int))] [(0, none), (1, none), (2, none), (3, none)] [.e (ν1 1), .e (ν1 1), .e (ν1 0), .e (ν1 0)] trivial fun ac wd hS => ?_
 refine hS.call0 120 #[.agg #[sc g u n cp, vi rf], .agg #[vi o_, vi z], vi a, vi ((ByteArray.size s : Nat) : Int)] 15 (ref04_Within g u n cp rf o_ z a ((ByteArray.size s : Nat) : Int) m _ (hS.mem.get 0 g (.fn u (u + n) (strs (pgS m) u))) (by first | assumption | omega | (simp_all; done) | (simp_all; omega)) (by first | assumption | omega | (simp_all; done) | (simp_all; omega)) (by first | assumption | omega | (simp_all; done) | (simp_all; omega))) fun ac wd hS => ?_
 refine hS.opsC 1 [0] [2, 3, 4, 5, 8] fun _ => seg [(16, vb (!(wiM m o_ z a ((ByteArray.size s : Nat) : Int))))] [(0, none), (1, none), (2, none), (3, none)] [] trivial fun ac wd hS => ?_
 refine list_nil_seq ?_
 refine hS.condC (!(wiM m o_ z a ((ByteArray.size s : Nat) : Int))) (fun hb1o hb1 => ?_) (fun hb1o hb1 => ?_)
 ·
  have hxn : wiM m o_ z a ((s.size : Nat) : Int) = false := by simpa using hb1o
  refine hS.regS [100, 300, 0] [8] fun _ => seg [(9, vi 3)] [(0, none), (3, some ((ν1 2), .cells [sc g u n cp, vi rf] 30))] [.e (ν1 2), .e (ν1 2), .e (ν1 0), .e (ν1 0)] trivial fun ac wd hS => ?_
  refine wp_ret ?_
  refine pop_then_ret ?_
  have hE9 : m = (vptM m o_ z a s) := by first | exact ptM_in hx | exact ptM_no hxn
  replace hS := hS.to (hS.mem.tellF (b := g) (lo := u) (hi := (u + n)) (f := (strs (pgS m) u)) 0 (u + n) (strs (pgS (vptM m o_ z a s)) u) rfl (fun x_ _ _ => congrFun (congrArg (fun q_ => strs (pgS q_) u) hE9) x_))
  refine St.retC 1 hS (.tuple #[.agg #[sc g u n cp, vi rf], vi 3]) [.e (ν1 2), .e (ν1 2)] trivial fun hw => ?_
  refine ⟨g, u, cp, retd (tuple2 rfl (vint ?_)), (.inl rfl), (hw.get 0 g (.fn u (u + n) (strs (pgS (vptM m o_ z a s)) u))), hw.fr0⟩
  all_goals (first | exact (byE_no hxn).symm | exact by_chk hx | rfl)
 ·
  have hx : wiM m o_ z a ((s.size : Nat) : Int) = true := by simpa using hb1o
  obtain ⟨hx1, hx2⟩ := wi_in hx
  obtain ⟨hxa, hxb, hxc, hxd⟩ := vch_in hx1
  refine wp_skip ?_
  refine pop_then ?_
  refine wp_region_seq ?_
  refine hS.opsC 6 [100, 0, 200, 0, 20, 0] [8] fun _ => seg [(18, .agg #[sc g u n cp, vi rf]), (22, vi (o_ + a)), (23, .string s)] [(0, none), (3, none)] [.p (fit .i64 (o_ + a)), .e (ν1 1), .e (ν1 0), .e (ν1 0)] ⟨fit_i64 (by omega), trivial⟩ fun ac wd hS => ?_
  refine hS.callC 57 #[.agg #[sc g u n cp, vi rf], vi (o_ + a), .string s] (ref03_PutM g u n cp rf (o_ + a) s m _ (hS.mem.get 0 g (.fn u (u + n) (strs (pgS m) u))) (by first | assumption | omega | (simp_all; done) | (simp_all; omega)) (by first | assumption | omega | (simp_all; done) | (simp_all; omega))) ?_
  rintro _ wd ⟨g22, u23, cp24, rfl, hog0, hoh0, hF⟩
  have ho5 : g22 = g ∨ w.heap.size ≤ g22 := by rcases hog0 with hx | hx; rw [hx]; exact (.inl rfl); exact .inr (Nat.le_trans hS.mem.fr.size hx)
  refine ⟨.tuple #[.agg #[sc g22 u23 n cp24, vi rf], vi (chkE m (o_ + a) ((s.size : Nat) : Int))], rfl, ?_⟩
  replace hS := (hS.to (hS.mem.outs hF [(g22, .fn u23 (u23 + n) (strs (pgS (putM m (o_ + a) s)) u23))] ⟨⟨rfl, hoh0, hog0.imp (fun e => ⟨0, .fn u (u + n) (strs (pgS m) u), by rw [e]; rfl, rfl⟩) id⟩, trivial⟩)).put (d := 24) (v := .tuple #[.agg #[sc g22 u23 n cp24, vi rf], vi (chkE m (o_ + a) ((s.size : Nat) : Int))]) (by decide)
  clear hF
  refine hS.opsC 4 [0, 0, 100, 0] [8] fun _ => seg [(9, vi (chkE m (o_ + a) ((s.size : Nat) : Int)))] [(1, some ((ν1 2), .cells [sc g22 u23 n cp24, vi rf] 30)), (2, none)] [.e (ν1 2), .e (ν1 2)] trivial fun ac wd hS => ?_
  refine list_nil_seq ?_
  refine wp_ret ?_
  have hE9 : (putM m (o_ + a) s) = (vptM m o_ z a s) := by first | exact ptM_in hx | exact ptM_no hxn
  replace hS := hS.to (hS.mem.tellF (b := g22) (lo := u23) (hi := (u23 + n)) (f := (strs (pgS (putM m (o_ + a) s)) u23)) 1 (u23 + n) (strs (pgS (vptM m o_ z a s)) u23) rfl (fun x_ _ _ => congrFun (congrArg (fun q_ => strs (pgS q_) u23) hE9) x_))
  refine St.retC 0 hS (.tuple #[.agg #[sc g22 u23 n cp24, vi rf], vi (chkE m (o_ + a) ((s.size : Nat) : Int))]) [.e (ν1 2), .e (ν1 2)] trivial fun hw => ?_
  refine ⟨g22, u23, cp24, retd (tuple2 rfl (vint ?_)), ho5, (hw.get 1 g22 (.fn u23 (u23 + n) (strs (pgS (vptM m o_ z a s)) u23))), hw.fr0⟩
  all_goals (first | exact (byE_no hxn).symm | exact by_chk hx | rfl)

set_option maxRecDepth 100000 in
set_option maxHeartbeats 1000000 in
theorem ref04_Fill (g : Nat) (u : Nat) (n : Nat) (cp : Nat) (rf : Int) (o_ : Int) (z : Int) (a : Int) (k : Int) (c : Int) (m : AM) (w : World) (hh0 : HE.holds w g (.fn u (u + n) (strs (pgS m) u))) (hcap : m.cap = n) (hn : n ≤ 1048576) (ho : 0 ≤ o_ ∧ 0 ≤ z ∧ o_ + z ≤ 4294967296) (hc : 0 ≤ c ∧ c ≤ 255) :
    Calls Tryd.prog 83 #[.agg #[sc g u n cp, vi rf], .agg #[vi o_, vi z], vi a, vi k, v8 c] w fun e w' => ∃ (g2 : Nat) (u2 : Nat) (cp2 : Nat), e = .returned (.tuple #[.agg #[sc g2 u2 n cp2, vi rf], vi (vbyE m o_ z a k)]) ∧ (g2 = g ∨ w.heap.size ≤ g2) ∧ HE.holds w' g2 (.fn u2 (u2 + n) (strs (pgS (vfiM m o_ z a k (u8 c))) u2)) ∧ Fr w w' no no := by
 refine enter (args := [.agg #[sc g u n cp, vi rf], .agg #[vi o_, vi z], vi a, vi k, v8 c]) (D := no) (A := []) Tryd.func83 rfl 29 rfl [(g, .fn u (u + n) (strs (pgS m) u))] (WS.startL ⟨⟨rfl, hh0⟩, trivial⟩) fun ac hS => ?_
 refine hS.regS [0, 0, 0, 0] [2, 3, 4] fun ν1 => seg [(5, pt (ν1 0) 0), (6, pt (ν1 1) 0), (10, pt (ν1 2) 0)] [(0, none), (1, some ((ν1 0), .cells [sc g u n cp, vi rf] 30)), (2, some ((ν1 1), .cells [vi o_, vi z] 61)), (3, some ((ν1 2), .cells [vnil, vi 0] 30))] [] trivial fun ac wd hS => ?_
 refine wp_seq ?_
 refine wp_region_seq ?_
 refine hS.opsC 4 [100, 200, 0, 0] [2, 3, 4, 5, 6, 10] fun _ => seg [(12, .agg #[sc g u n cp, vi rf]), (13, .agg #[vi o_, vi z]), (14, vi a), (15, vi k)] [(0, none), (1, none), (2, none), (3, none)] [.e (ν1 1), .e (ν1 1), .e (ν1 0), .e (ν1 0)] trivial fun ac wd hS => ?_
 refine hS.call0 120 #[.agg #[sc g u n cp, vi rf], .agg #[vi o_, vi z], vi a, vi k] 16 (ref04_Within g u n cp rf o_ z a k m _ (hS.mem.get 0 g (.fn u (u + n) (strs (pgS m) u))) (by first | assumption | omega | (simp_all; done) | (simp_all; omega)) (by first | assumption | omega | (simp_all; done) | (simp_all; omega)) (by first | assumption | omega | (simp_all; done) | (simp_all; omega))) fun ac wd hS => ?_
 refine hS.opsC 1 [0] [2, 3, 4, 5, 6, 10] fun _ => seg [(17, vb (!(wiM m o_ z a k)))] [(0, none), (1, none), (2, none), (3, none)] [] trivial fun ac wd hS => ?_
 refine list_nil_seq ?_
 refine hS.condC (!(wiM m o_ z a k)) (fun hb1o hb1 => ?_) (fun hb1o hb1 => ?_)
 ·
  have hxn : wiM m o_ z a k = false := by simpa using hb1o
  refine hS.regS [100, 300, 0] [10] fun _ => seg [(11, vi 3)] [(0, none), (3, some ((ν1 2), .cells [sc g u n cp, vi rf] 30))] [.e (ν1 2), .e (ν1 2), .e (ν1 0), .e (ν1 0)] trivial fun ac wd hS => ?_
  refine wp_ret ?_
  refine pop_then_ret ?_
  have hE9 : m = (vfiM m o_ z a k (u8 c)) := by first | exact fiM_in hx | exact fiM_no hxn
  replace hS := hS.to (hS.mem.tellF (b := g) (lo := u) (hi := (u + n)) (f := (strs (pgS m) u)) 0 (u + n) (strs (pgS (vfiM m o_ z a k (u8 c))) u) rfl (fun x_ _ _ => congrFun (congrArg (fun q_ => strs (pgS q_) u) hE9) x_))
  refine St.retC 1 hS (.tuple #[.agg #[sc g u n cp, vi rf], vi 3]) [.e (ν1 2), .e (ν1 2)] trivial fun hw => ?_
  refine ⟨g, u, cp, retd (tuple2 rfl (vint ?_)), (.inl rfl), (hw.get 0 g (.fn u (u + n) (strs (pgS (vfiM m o_ z a k (u8 c))) u))), hw.fr0⟩
  all_goals (first | exact (byE_no hxn).symm | exact by_chk hx | rfl)
 ·
  have hx : wiM m o_ z a k = true := by simpa using hb1o
  obtain ⟨hx1, hx2⟩ := wi_in hx
  obtain ⟨hxa, hxb, hxc, hxd⟩ := vch_in hx1
  refine wp_skip ?_
  refine pop_then ?_
  refine wp_region_seq ?_
  refine hS.opsC 7 [100, 0, 200, 0, 20, 0, 0] [10] fun _ => seg [(19, .agg #[sc g u n cp, vi rf]), (23, vi (o_ + a)), (24, vi k), (25, v8 c)] [(0, none), (3, none)] [.p (fit .i64 (o_ + a)), .e (ν1 1), .e (ν1 0), .e (ν1 0)] ⟨fit_i64 (by omega), trivial⟩ fun ac wd hS => ?_
  refine hS.callC 59 #[.agg #[sc g u n cp, vi rf], vi (o_ + a), vi k, v8 c] (ref03_FillM g u n cp rf (o_ + a) k c m _ (hS.mem.get 0 g (.fn u (u + n) (strs (pgS m) u))) (by first | assumption | omega | (simp_all; done) | (simp_all; omega)) (by first | assumption | omega | (simp_all; done) | (simp_all; omega)) (by first | assumption | omega | (simp_all; done) | (simp_all; omega))) ?_
  rintro _ wd ⟨g22, u23, cp24, rfl, hog0, hoh0, hF⟩
  have ho5 : g22 = g ∨ w.heap.size ≤ g22 := by rcases hog0 with hx | hx; rw [hx]; exact (.inl rfl); exact .inr (Nat.le_trans hS.mem.fr.size hx)
  refine ⟨.tuple #[.agg #[sc g22 u23 n cp24, vi rf], vi (chkE m (o_ + a) k)], rfl, ?_⟩
  replace hS := (hS.to (hS.mem.outs hF [(g22, .fn u23 (u23 + n) (strs (pgS (filM m (o_ + a) k (u8 c))) u23))] ⟨⟨rfl, hoh0, hog0.imp (fun e => ⟨0, .fn u (u + n) (strs (pgS m) u), by rw [e]; rfl, rfl⟩) id⟩, trivial⟩)).put (d := 26) (v := .tuple #[.agg #[sc g22 u23 n cp24, vi rf], vi (chkE m (o_ + a) k)]) (by decide)
  clear hF
  refine hS.opsC 4 [0, 0, 100, 0] [10] fun _ => seg [(11, vi (chkE m (o_ + a) k))] [(1, some ((ν1 2), .cells [sc g22 u23 n cp24, vi rf] 30)), (2, none)] [.e (ν1 2), .e (ν1 2)] trivial fun ac wd hS => ?_
  refine list_nil_seq ?_
  refine wp_ret ?_
  have hE9 : (filM m (o_ + a) k (u8 c)) = (vfiM m o_ z a k (u8 c)) := by first | exact fiM_in hx | exact fiM_no hxn
  replace hS := hS.to (hS.mem.tellF (b := g22) (lo := u23) (hi := (u23 + n)) (f := (strs (pgS (filM m (o_ + a) k (u8 c))) u23)) 1 (u23 + n) (strs (pgS (vfiM m o_ z a k (u8 c))) u23) rfl (fun x_ _ _ => congrFun (congrArg (fun q_ => strs (pgS q_) u23) hE9) x_))
  refine St.retC 0 hS (.tuple #[.agg #[sc g22 u23 n cp24, vi rf], vi (chkE m (o_ + a) k)]) [.e (ν1 2), .e (ν1 2)] trivial fun hw => ?_
  refine ⟨g22, u23, cp24, retd (tuple2 rfl (vint ?_)), ho5, (hw.get 1 g22 (.fn u23 (u23 + n) (strs (pgS (vfiM m o_ z a k (u8 c))) u23))), hw.fr0⟩
  all_goals (first | exact (byE_no hxn).symm | exact by_chk hx | rfl)

set_option maxRecDepth 100000 in
set_option maxHeartbeats 1000000 in
theorem ref04_Copy (g : Nat) (u : Nat) (n : Nat) (cp : Nat) (rf : Int) (o_ : Int) (z : Int) (t : Int) (f : Int) (k : Int) (m : AM) (w : World) (hh0 : HE.holds w g (.fn u (u + n) (strs (pgS m) u))) (hcap : m.cap = n) (hn : n ≤ 1048576) (ho : 0 ≤ o_ ∧ 0 ≤ z ∧ o_ + z ≤ 4294967296) :
    Calls Tryd.prog 85 #[.agg #[sc g u n cp, vi rf], .agg #[vi o_, vi z], vi t, vi f, vi k] w fun e w' => ∃ (g2 : Nat) (u2 : Nat) (cp2 : Nat), e = .returned (.tuple #[.agg #[sc g2 u2 n cp2, vi rf], vi (vcpE m o_ z t f k)]) ∧ (g2 = g ∨ w.heap.size ≤ g2) ∧ HE.holds w' g2 (.fn u2 (u2 + n) (strs (pgS (vcpM m o_ z t f k)) u2)) ∧ Fr w w' no no := by
 refine enter (args := [.agg #[sc g u n cp, vi rf], .agg #[vi o_, vi z], vi t, vi f, vi k]) (D := no) (A := []) Tryd.func85 rfl 40 rfl [(g, .fn u (u + n) (strs (pgS m) u))] (WS.startL ⟨⟨rfl, hh0⟩, trivial⟩) fun ac hS => ?_
 refine hS.regS [0, 0, 0, 0] [2, 3, 4] fun ν1 => seg [(5, pt (ν1 0) 0), (6, pt (ν1 1) 0), (10, pt (ν1 2) 0)] [(0, none), (1, some ((ν1 0), .cells [sc g u n cp, vi rf] 30)), (2, some ((ν1 1), .cells [vi o_, vi z] 61)), (3, some ((ν1 2), .cells [vnil, vi 0] 30))] [] trivial fun ac wd hS => ?_
 refine wp_seq ?_
 refine wp_region_seq ?_
 refine hS.opsC 4 [100, 200, 0, 0] [2, 3, 4, 5, 6, 10] fun _ => seg [(12, .agg #[sc g u n cp, vi rf]), (13, .agg #[vi o_, vi z]), (14, vi f), (15, vi k)] [(0, none), (1, none), (2, none), (3, none)] [.e (ν1 1), .e (ν1 1), .e (ν1 0), .e (ν1 0)] trivial fun ac wd hS => ?_
 refine hS.call0 120 #[.agg #[sc g u n cp, vi rf], .agg #[vi o_, vi z], vi f, vi k] 16 (ref04_Within g u n cp rf o_ z f k m _ (hS.mem.get 0 g (.fn u (u + n) (strs (pgS m) u))) (by first | assumption | omega | (simp_all; done) | (simp_all; omega)) (by first | assumption | omega | (simp_all; done) | (simp_all; omega)) (by first | assumption | omega | (simp_all; done) | (simp_all; omega))) fun ac wd hS => ?_
 refine hS.opsC 2 [0, 0] [2, 3, 4, 5, 6, 10] fun _ => seg [(18, vb (!(wiM m o_ z f k)))] [(0, none), (1, none), (2, none), (3, none)] [] trivial fun ac wd hS => ?_
 rcases Bool.eq_false_or_eq_true (!(wiM m o_ z f k)) with hg1o | hg1o
 ·
  have hg1 := nrm hg1o
  have hfn : wiM m o_ z f k = false := by simpa using hg1o
  replace hS := hS.fix 18 (vb true) (congrArg Value.bool hg1o)
  refine hS.opsC 7 [2, 2, 2, 2, 2, 2, 70] [2, 3, 4, 5, 6, 10] fun _ => seg [(25, vb true)] [(0, none), (1, none), (2, none), (3, none)] [.t true, .t true, .t true, .t true, .t true, .t true, .t true] trivial fun ac wd hS => ?_
  refine list_nil_seq ?_
  refine hS.condT ?_
  refine hS.regS [100, 300, 0] [10] fun _ => seg [(11, vi 3)] [(0, none), (3, some ((ν1 2), .cells [sc g u n cp, vi rf] 30))] [.e (ν1 2), .e (ν1 2), .e (ν1 0), .e (ν1 0)] trivial fun ac wd hS => ?_
  refine wp_ret ?_
  refine pop_then_ret ?_
  have hE9 : m = (vcpM m o_ z t f k) := by first | exact (cp_no2 hf htn).1 | exact (cp_no1 hfn).1 | exact (cp_in hf ht).1
  replace hS := hS.to (hS.mem.tellF (b := g) (lo := u) (hi := (u + n)) (f := (strs (pgS m) u)) 0 (u + n) (strs (pgS (vcpM m o_ z t f k)) u) rfl (fun x_ _ _ => congrFun (congrArg (fun q_ => strs (pgS q_) u) hE9) x_))
  refine St.retC 1 hS (.tuple #[.agg #[sc g u n cp, vi rf], vi 3]) [.e (ν1 2), .e (ν1 2)] trivial fun hw => ?_
  refine ⟨g, u, cp, retd (tuple2 rfl (vint ?_)), (.inl rfl), (hw.get 0 g (.fn u (u + n) (strs (pgS (vcpM m o_ z t f k)) u))), hw.fr0⟩
  all_goals (first | rfl | exact (cp_no2 hf htn).2 | exact (cp_no1 hfn).2 | exact (cp_in hf ht).2)
 ·
  have hg1 := nrm hg1o
  have hf : wiM m o_ z f k = true := by simpa using hg1o
  obtain ⟨hf1, hf2⟩ := wi_in hf
  obtain ⟨hfa, hfb, hfc, hfd⟩ := vch_in hf1
  replace hS := hS.fix 18 (vb false) (congrArg Value.bool hg1o)
  refine hS.opsC 4 [101, 201, 1, 1] [2, 3, 4, 5, 6, 10, 18] fun _ => seg [(19, .agg #[sc g u n cp, vi rf]), (20, .agg #[vi o_, vi z]), (21, vi t), (22, vi k)] [(0, none), (1, none), (2, none), (3, none)] [.t false, .t false, .t false, .e (ν1 1), .e (ν1 1), .t false, .e (ν1 0), .e (ν1 0)] trivial fun ac wd hS => ?_
  refine hS.callG false 120 #[.agg #[sc g u n cp, vi rf], .agg #[vi o_, vi z], vi t, vi k] (ref04_Within g u n cp rf o_ z t k m _ (hS.mem.get 0 g (.fn u (u + n) (strs (pgS m) u))) (by first | assumption | omega | (simp_all; done) | (simp_all; omega)) (by first | assumption | omega | (simp_all; done) | (simp_all; omega)) (by first | assumption | omega | (simp_all; done) | (simp_all; omega))) ?_
  rintro _ wd ⟨rfl, hF⟩
  refine ⟨vb (wiM m o_ z t k), rfl, ?_⟩
  replace hS := (hS.to (hS.mem.keep0 hF)).put (d := 23) (v := vb (wiM m o_ z t k)) (by decide)
  clear hF
  refine hS.opsC 2 [1, 60] [2, 3, 4, 5, 6, 10] fun _ => seg [(25, vb (!(wiM m o_ z t k)))] [(0, none), (1, none), (2, none), (3, none)] [.t false, .t false] trivial fun ac wd hS => ?_
  refine list_nil_seq ?_
  refine hS.condC (!(wiM m o_ z t k)) (fun hb2o hb2 => ?_) (fun hb2o hb2 => ?_)
  ·
   have htn : wiM m o_ z t k = false := by simpa using hb2o
   refine hS.regS [100, 300, 0] [10] fun _ => seg [(11, vi 3)] [(0, none), (3, some ((ν1 2), .cells [sc g u n cp, vi rf] 30))] [.e (ν1 2), .e (ν1 2), .e (ν1 0), .e (ν1 0)] trivial fun ac wd hS => ?_
   refine wp_ret ?_
   refine pop_then_ret ?_
   have hE9 : m = (vcpM m o_ z t f k) := by first | exact (cp_no2 hf htn).1 | exact (cp_no1 hfn).1 | exact (cp_in hf ht).1
   replace hS := hS.to (hS.mem.tellF (b := g) (lo := u) (hi := (u + n)) (f := (strs (pgS m) u)) 0 (u + n) (strs (pgS (vcpM m o_ z t f k)) u) rfl (fun x_ _ _ => congrFun (congrArg (fun q_ => strs (pgS q_) u) hE9) x_))
   refine St.retC 1 hS (.tuple #[.agg #[sc g u n cp, vi rf], vi 3]) [.e (ν1 2), .e (ν1 2)] trivial fun hw => ?_
   refine ⟨g, u, cp, retd (tuple2 rfl (vint ?_)), (.inl rfl), (hw.get 0 g (.fn u (u + n) (strs (pgS (vcpM m o_ z t f k)) u))), hw.fr0⟩
   all_goals (first | rfl | exact (cp_no2 hf htn).2 | exact (cp_no1 hfn).2 | exact (cp_in hf ht).2)
  ·
   have ht : wiM m o_ z t k = true := by simpa using hb2o
   obtain ⟨ht1, ht2⟩ := wi_in ht
   obtain ⟨hta, htb, htc, htd⟩ := vch_in ht1
   refine wp_skip ?_
   refine pop_then ?_
   refine wp_region_seq ?_
   refine hS.opsC 10 [100, 0, 200, 0, 20, 0, 200, 0, 20, 0] [10] fun _ => seg [(27, .agg #[sc g u n cp, vi rf]), (31, vi (o_ + t)), (35, vi (o_ + f)), (36, vi k)] [(0, none), (3, none)] [.p (fit .i64 (o_ + f)), .e (ν1 1), .p (fit .i64 (o_ + t)), .e (ν1 1), .e (ν1 0), .e (ν1 0)] ⟨fit_i64 (by omega), fit_i64 (by omega), trivial⟩ fun ac wd hS => ?_
   refine hS.callC 61 #[.agg #[sc g u n cp, vi rf], vi (o_ + t), vi (o_ + f), vi k] (ref03_CopyM g u n cp rf (o_ + t) (o_ + f) k m _ (hS.mem.get 0 g (.fn u (u + n) (strs (pgS m) u))) (by first | assumption | omega | (simp_all; done) | (simp_all; omega)) (by first | assumption | omega | (simp_all; done) | (simp_all; omega))) ?_
   rintro _ wd ⟨g23, u24, cp25, rfl, hog0, hoh0, hF⟩
   have ho6 : g23 = g ∨ w.heap.size ≤ g23 := by rcases hog0 with hx | hx; rw [hx]; exact (.inl rfl); exact .inr (Nat.le_trans hS.mem.fr.size hx)
   refine ⟨.tuple #[.agg #[sc g23 u24 n cp25, vi rf], vi (cpyE m (o_ + t) (o_ + f) k)], rfl, ?_⟩
   replace hS := (hS.to (hS.mem.outs hF [(g23, .fn u24 (u24 + n) (strs (pgS (cpyM m (o_ + t) (o_ + f) k)) u24))] ⟨⟨rfl, hoh0, hog0.imp (fun e => ⟨0, .fn u (u + n) (strs (pgS m) u), by rw [e]; rfl, rfl⟩) id⟩, trivial⟩)).put (d := 37) (v := .tuple #[.agg #[sc g23 u24 n cp25, vi rf], vi (cpyE m (o_ + t) (o_ + f) k)]) (by decide)
   clear hF
   refine hS.opsC 4 [0, 0, 100, 0] [10] fun _ => seg [(11, vi (cpyE m (o_ + t) (o_ + f) k))] [(1, some ((ν1 2), .cells [sc g23 u24 n cp25, vi rf] 30)), (2, none)] [.e (ν1 2), .e (ν1 2)] trivial fun ac wd hS => ?_
   refine list_nil_seq ?_
   refine wp_ret ?_
   have hE9 : (cpyM m (o_ + t) (o_ + f) k) = (vcpM m o_ z t f k) := by first | exact (cp_no2 hf htn).1 | exact (cp_no1 hfn).1 | exact (cp_in hf ht).1
   replace hS := hS.to (hS.mem.tellF (b := g23) (lo := u24) (hi := (u24 + n)) (f := (strs (pgS (cpyM m (o_ + t) (o_ + f) k)) u24)) 1 (u24 + n) (strs (pgS (vcpM m o_ z t f k)) u24) rfl (fun x_ _ _ => congrFun (congrArg (fun q_ => strs (pgS q_) u24) hE9) x_))
   refine St.retC 0 hS (.tuple #[.agg #[sc g23 u24 n cp25, vi rf], vi (cpyE m (o_ + t) (o_ + f) k)]) [.e (ν1 2), .e (ν1 2)] trivial fun hw => ?_
   refine ⟨g23, u24, cp25, retd (tuple2 rfl (vint ?_)), ho6, (hw.get 1 g23 (.fn u24 (u24 + n) (strs (pgS (vcpM m o_ z t f k)) u24))), hw.fr0⟩
   all_goals (first | rfl | exact (cp_no2 hf htn).2 | exact (cp_no1 hfn).2 | exact (cp_in hf ht).2)

set_option maxRecDepth 100000 in
set_option maxHeartbeats 1000000 in
theorem ref04_Store (g : Nat) (u : Nat) (n : Nat) (cp : Nat) (rf : Int) (o_ : Int) (z : Int) (a : Int) (k : Int) (v : Int) (m : AM) (w : World) (hh0 : HE.holds w g (.fn u (u + n) (strs (pgS m) u))) (hcap : m.cap = n) (hn : n ≤ 1048576) (ho : 0 ≤ o_ ∧ 0 ≤ z ∧ o_ + z ≤ 4294967296) (hv : 0 ≤ v ∧ v ≤ 18446744073709551615) :
    Calls Tryd.prog 77 #[.agg #[sc g u n cp, vi rf], .agg #[vi o_, vi z], vi a, vi k, vu v] w fun e w' => ∃ (g2 : Nat) (u2 : Nat) (cp2 : Nat), e = .returned (.tuple #[.agg #[sc g2 u2 n cp2, vi rf], vi (vstE m o_ z a k)]) ∧ (g2 = g ∨ w.heap.size ≤ g2) ∧ HE.holds w' g2 (.fn u2 (u2 + n) (strs (pgS (vstM m o_ z a k v)) u2)) ∧ Fr w w' no no := by
 refine enter (args := [.agg #[sc g u n cp, vi rf], .agg #[vi o_, vi z], vi a, vi k, vu v]) (D := no) (A := []) Tryd.func77 rfl 36 rfl [(g, .fn u (u + n) (strs (pgS m) u))] (WS.startL ⟨⟨rfl, hh0⟩, trivial⟩) fun ac hS => ?_
 refine hS.regS [0, 0, 0, 0] [2, 3, 4] fun ν1 => seg [(5, pt (ν1 0) 0), (6, pt (ν1 1) 0), (10, pt (ν1 2) 0)] [(0, none), (1, some ((ν1 0), .cells [sc g u n cp, vi rf] 30)), (2, some ((ν1 1), .cells [vi o_, vi z] 61)), (3, some ((ν1 2), .cells [vnil, vi 0] 30))] [] trivial fun ac wd hS => ?_
 refine wp_region_seq ?_
 refine hS.opsC 4 [100, 200, 0, 0] [2, 3, 4, 5, 6, 10] fun _ => seg [(15, .agg #[sc g u n cp, vi rf]), (16, .agg #[vi o_, vi z]), (17, vi a), (18, vi k)] [(0, none), (1, none), (2, none), (3, none)] [.e (ν1 1), .e (ν1 1), .e (ν1 0), .e (ν1 0)] trivial fun ac wd hS => ?_
 refine hS.call0 76 #[.agg #[sc g u n cp, vi rf], .agg #[vi o_, vi z], vi a, vi k] 19 (ref04_Load g u n cp rf o_ z a k m _ (hS.mem.get 0 g (.fn u (u + n) (strs (pgS m) u))) (by first | assumption | omega | (simp_all; done) | (simp_all; omega)) (by first | assumption | omega | (simp_all; done) | (simp_all; omega)) (by first | assumption | omega | (simp_all; done) | (simp_all; omega))) fun ac wd hS => ?_
 refine hS.opsC 5 [0, 0, 0, 0, 0] [2, 3, 4, 5, 6, 10] fun _ => seg [(13, vi (vldE m o_ z a k))] [(0, none), (1, none), (2, none), (3, none)] [] trivial fun ac wd hS => ?_
 refine list_nil_seq ?_
 refine wp_seq ?_
 refine hS.regS [0, 0] [2, 3, 4, 5, 6, 10, 13] fun _ => seg [(23, vb (((vldE m o_ z a k) : Int) != 0))] [(0, none), (1, none), (2, none), (3, none)] [] trivial fun ac wd hS => ?_
 refine hS.condC (((vldE m o_ z a k) : Int) != 0) (fun hb1o hb1 => ?_) (fun hb1o hb1 => ?_)
 ·
  have hln := hb1
  refine hS.regS [100, 0, 300, 0] [10] fun _ => seg [(11, vi (vldE m o_ z a k))] [(0, none), (3, some ((ν1 2), .cells [sc g u n cp, vi rf] 30))] [.e (ν1 2), .e (ν1 2), .e (ν1 0), .e (ν1 0)] trivial fun ac wd hS => ?_
  refine wp_ret ?_
  refine pop_then_ret ?_
  have hE9 : m = (vstM m o_ z a k v) := by first | exact (vs_no hln).1 | exact (vs_in hl0).1
  replace hS := hS.to (hS.mem.tellF (b := g) (lo := u) (hi := (u + n)) (f := (strs (pgS m) u)) 0 (u + n) (strs (pgS (vstM m o_ z a k v)) u) rfl (fun x_ _ _ => congrFun (congrArg (fun q_ => strs (pgS q_) u) hE9) x_))
  refine St.retC 1 hS (.tuple #[.agg #[sc g u n cp, vi rf], vi (vldE m o_ z a k)]) [.e (ν1 2), .e (ν1 2)] trivial fun hw => ?_
  refine ⟨g, u, cp, retd (tuple2 rfl (vint ?_)), (.inl rfl), (hw.get 0 g (.fn u (u + n) (strs (pgS (vstM m o_ z a k v)) u))), hw.fr0⟩
  all_goals (first | rfl | exact (vs_no (v := v) hln).2 | exact (vs_in (v := v) hl0).2)
 ·
  have hl0 := hb1
  obtain ⟨hw0, hw1, hw2⟩ := vl_0 hl0
  obtain ⟨hwa, hwb, hwc, hwd⟩ := vch_in hw1
  refine wp_skip ?_
  refine pop_then ?_
  refine wp_region_seq ?_
  refine hS.opsC 7 [100, 0, 200, 0, 20, 0, 0] [10] fun _ => seg [(26, .agg #[sc g u n cp, vi rf]), (30, vi (o_ + a)), (31, vi k), (32, vu v)] [(0, none), (3, none)] [.p (fit .i64 (o_ + a)), .e (ν1 1), .e (ν1 0), .e (ν1 0)] ⟨fit_i64 (by omega), trivial⟩ fun ac wd hS => ?_
  refine hS.callC 54 #[.agg #[sc g u n cp, vi rf], vi (o_ + a), vi k, vu v] (ref03_StoreM g u n cp rf (o_ + a) k v m _ (hS.mem.get 0 g (.fn u (u + n) (strs (pgS m) u))) (by first | assumption | omega | (simp_all; done) | (simp_all; omega)) (by first | assumption | omega | (simp_all; done) | (simp_all; omega)) (by first | assumption | omega | (simp_all; done) | (simp_all; omega))) ?_
  rintro _ wd ⟨g22, u23, cp24, rfl, hog0, hoh0, hF⟩
  have ho5 : g22 = g ∨ w.heap.size ≤ g22 := by rcases hog0 with hx | hx; rw [hx]; exact (.inl rfl); exact .inr (Nat.le_trans hS.mem.fr.size hx)
  refine ⟨.tuple #[.agg #[sc g22 u23 n cp24, vi rf], vi (stE m (o_ + a) k)], rfl, ?_⟩
  replace hS := (hS.to (hS.mem.outs hF [(g22, .fn u23 (u23 + n) (strs (pgS (stM m (o_ + a) k v)) u23))] ⟨⟨rfl, hoh0, hog0.imp (fun e => ⟨0, .fn u (u + n) (strs (pgS m) u), by rw [e]; rfl, rfl⟩) id⟩, trivial⟩)).put (d := 33) (v := .tuple #[.agg #[sc g22 u23 n cp24, vi rf], vi (stE m (o_ + a) k)]) (by decide)
  clear hF
  refine hS.opsC 4 [0, 0, 100, 0] [10] fun _ => seg [(11, vi (stE m (o_ + a) k))] [(1, some ((ν1 2), .cells [sc g22 u23 n cp24, vi rf] 30)), (2, none)] [.e (ν1 2), .e (ν1 2)] trivial fun ac wd hS => ?_
  refine list_nil_seq ?_
  refine wp_ret ?_
  have hE9 : (stM m (o_ + a) k v) = (vstM m o_ z a k v) := by first | exact (vs_no hln).1 | exact (vs_in hl0).1
  replace hS := hS.to (hS.mem.tellF (b := g22) (lo := u23) (hi := (u23 + n)) (f := (strs (pgS (stM m (o_ + a) k v)) u23)) 1 (u23 + n) (strs (pgS (vstM m o_ z a k v)) u23) rfl (fun x_ _ _ => congrFun (congrArg (fun q_ => strs (pgS q_) u23) hE9) x_))
  refine St.retC 0 hS (.tuple #[.agg #[sc g22 u23 n cp24, vi rf], vi (stE m (o_ + a) k)]) [.e (ν1 2), .e (ν1 2)] trivial fun hw => ?_
  refine ⟨g22, u23, cp24, retd (tuple2 rfl (vint ?_)), ho5, (hw.get 1 g22 (.fn u23 (u23 + n) (strs (pgS (vstM m o_ z a k v)) u23))), hw.fr0⟩
  all_goals (first | rfl | exact (vs_no (v := v) hln).2 | exact (vs_in (v := v) hl0).2)

end Go.Proofs.YtdjhdcaanmkblaaDoor.K
