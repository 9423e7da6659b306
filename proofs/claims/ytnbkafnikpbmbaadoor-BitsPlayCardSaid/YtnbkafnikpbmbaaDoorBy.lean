/-
  Walks, printed by w2.py.
-/
import Derived.Test.YtnbkafnikpbmbaaDoorM2
import Derived.Test.YtnbkafnikpbmbaaDoorRy
import Derived.Test.YtnbkafnikpbmbaaDoorProg
namespace Go.Proofs.YtnbkafnikpbmbaaDoor.K
set_option linter.unusedVariables false
set_option linter.unusedSimpArgs false

set_option maxRecDepth 100000 in
set_option maxHeartbeats 1000000 in
theorem ref02_Within (g : Nat) (o : Nat) (c : Nat) (n : Nat) (f : Int) (k : Int) (w : World) (hn : n ≤ 1048576) :
    Calls Tryd.prog 182 #[sc g o n c, vi f, vi k] w fun e w' => e = .returned (vb (wth n f k)) ∧ Fr w w' no no := by
 refine enter (args := [sc g o n c, vi f, vi k]) (D := no) (A := []) Tryd.func182 rfl 27 rfl [] (WS.startL trivial) fun ac hS => ?_
 refine hS.regS [0] [0, 1, 2] fun _ => seg [] [] [] trivial fun ac wd hS => ?_
 refine wp_region_seq ?_
 refine hS.opsC 13 [0, 0, 0, 3, 3, 80, 0, 3, 3, 3, 3, 80, 0] [0, 1, 2] fun _ => seg [(19, vb (((decide ((0 : Int) ≤ f)) && (decide ((0 : Int) ≤ k))) && (decide ((k : Int) ≤ ((n : Nat) : Int)))))] [] [] trivial fun ac wd hS => ?_
 rcases Bool.eq_false_or_eq_true (((decide ((0 : Int) ≤ f)) && (decide ((0 : Int) ≤ k))) && (decide ((k : Int) ≤ ((n : Nat) : Int)))) with hg1o | hg1o
 ·
  have hg1 := nrm hg1o
  replace hS := hS.fix 19 (vb true) (congrArg Value.bool hg1o)
  refine hS.opsC 8 [1, 1, 1, 1, 21, 1, 70, 0] [] fun _ => seg [(6, vb (decide ((f : Int) ≤ (((n : Nat) : Int) - k))))] [] [.t true, .t true, .t true, .p (fit .i64 (((n : Nat) : Int) - k)), .t true, .t true, .t true, .t true] ⟨fit_i64 (by omega), trivial⟩ fun ac wd hS => ?_
  refine list_nil_seq ?_
  refine wp_ret ?_
  refine St.retC 0 hS (vb (decide ((f : Int) ≤ (((n : Nat) : Int) - k)))) [] trivial fun hw => ?_
  refine ⟨retd (vbool ?_), hw.fr0⟩
  all_goals (first | rfl | (simp [wth]; done) | (simp [wth]; omega) | (simp_all [wth]; done) | (simp_all [wth]; omega))
 ·
  have hg1 := nrm hg1o
  replace hS := hS.fix 19 (vb false) (congrArg Value.bool hg1o)
  refine hS.opsC 8 [2, 2, 2, 2, 2, 2, 60, 0] [] fun _ => seg [(6, vb false)] [] [.t false, .t false, .t false, .t false, .t false, .t false, .t false] trivial fun ac wd hS => ?_
  refine list_nil_seq ?_
  refine wp_ret ?_
  refine St.retC 0 hS (vb false) [] trivial fun hw => ?_
  refine ⟨retd (vbool ?_), hw.fr0⟩
  all_goals (first | rfl | (simp [wth]; done) | (simp [wth]; omega) | (simp_all [wth]; done) | (simp_all [wth]; omega))

set_option maxRecDepth 100000 in
set_option maxHeartbeats 1000000 in
theorem ref02_New (length : Int) (w : World) :
    Calls Tryd.prog 20 #[vi length] w fun e w' => ∃ (g2 : Nat) (c2 : Nat), e = .returned (sc g2 0 (capN length) c2) ∧ w.heap.size ≤ g2 ∧ HE.holds w' g2 (.fn 0 (0 + (capN length)) (boolsV (fun _ => false) 0)) ∧ Fr w w' no no := by
 have hcap := capN_le length
 refine enter (args := [vi length]) (D := no) (A := []) Tryd.func20 rfl 7 rfl [] (WS.startL trivial) fun ac hS => ?_
 refine hS.regS [0] [0] fun _ => seg [] [] [] trivial fun ac wd hS => ?_
 refine hS.regS [0, 0, fx 0 (vi ((capN length : Nat) : Int)), 90, 0] [] fun ν2 => seg [(2, sc (ν2 0) 0 (capN length) (capN length))] [(0, some ((ν2 0), .row 4 (capN length) (capN length) (boolsV (fun _ => false) 0)))] [.p ((((capN length : Nat) : Int) : Int) = ((capN length : Nat) : Int)), .p ((0 : Int) ≤ ((capN length : Nat) : Int) ∧ (((capN length : Nat) : Int) : Int) ≤ 2 ^ 32 ∧ 1 ≤ 64), .p ((vi (imin (imax length 0) 1048576) : Value) = vi ((capN length : Nat) : Int))] ⟨rfl, (by omega), (vint (capN_eq2 length)), trivial⟩ fun ac wd hS => ?_
 refine wp_ret ?_
 refine St.retC 0 hS (sc (ν2 0) 0 (capN length) (capN length)) [] trivial fun hw => ?_
 refine ⟨(ν2 0), (capN length), retd rfl, ((hw.getm 0 (ν2 0) (.row 4 (capN length) (capN length) (boolsV (fun _ => false) 0))).resolve_right (fun h => h)), (HE.fn_hi (by omega) (HE.of_row (hw.get 0 (ν2 0) (.row 4 (capN length) (capN length) (boolsV (fun _ => false) 0))) (fun _ _ => rfl))), hw.fr0⟩

set_option maxRecDepth 100000 in
set_option maxHeartbeats 1000000 in
theorem ref02_Count (g : Nat) (o : Nat) (c : Nat) (n : Nat) (f : Int) (k : Int) (p : Nat → Bool) (w : World) (hh0 : HE.holds w g (.fn o (o + n) (boolsV p o))) (hn : n ≤ 1048576) :
    Calls Tryd.prog 95 #[sc g o n c, vi f, vi k] w fun e w' => e = .returned (.tuple #[vi (cntV p n f k), vi (trnE n f k)]) ∧ Fr w w' no no := by
 refine enter (args := [sc g o n c, vi f, vi k]) (D := no) (A := []) Tryd.func95 rfl 30 rfl [(g, .fn o (o + n) (boolsV p o))] (WS.startL ⟨⟨rfl, hh0⟩, trivial⟩) fun ac hS => ?_
 refine hS.regS [0, 0] [0, 1, 2] fun _ => seg [] [(0, none)] [] trivial fun ac wd hS => ?_
 refine wp_seq ?_
 refine wp_region_seq ?_
 refine hS.opsC 3 [0, 0, 0] [0, 1, 2] fun _ => seg [(10, sc g o n c), (11, vi f), (12, vi k)] [(0, none)] [] trivial fun ac wd hS => ?_
 refine hS.call0 182 #[sc g o n c, vi f, vi k] 13 (ref02_Within g o c n f k _  (by first | assumption | omega | (simp_all; done) | (simp_all; omega))) fun ac wd hS => ?_
 refine hS.opsC 1 [0] [0, 1, 2] fun _ => seg [(14, vb (!(wth n f k)))] [(0, none)] [] trivial fun ac wd hS => ?_
 refine list_nil_seq ?_
 refine hS.condC (!(wth n f k)) (fun hb1o hb1 => ?_) (fun hb1o hb1 => ?_)
 ·
  refine hS.regS [0, 0] [] fun _ => seg [(6, vi 0), (7, vi 3)] [] [] trivial fun ac wd hS => ?_
  refine wp_ret ?_
  refine pop_then_ret ?_
  refine St.retC 0 hS (.tuple #[vi 0, vi 3]) [] trivial fun hw => ?_
  refine ⟨retd (tuple2 (vint ?_) (vint ?_)), hw.fr0⟩
  all_goals (first | rfl | exact cntV_no (by assumption) | exact trnE_no (by assumption) | exact trnE_yes (by assumption) | (rw [cntV_yes (by assumption), i1, show k.toNat = (x9 - f).toNat by omega]))
 ·
  have hwt : wth n f k = true := by simpa using hb1o
  obtain ⟨hw0, hw1, hw2⟩ := wth_facts hwt
  refine wp_skip ?_
  refine pop_then ?_
  refine hS.regS [0] [0, 1, 2] fun _ => seg [(8, vi 0)] [(0, none)] [] trivial fun ac wd hS => ?_
  refine wp_seq ?_
  refine hS.regS [0, 0] [0, 1, 2, 8] fun _ => seg [(9, vi f)] [(0, none)] [] trivial fun ac wd hS => ?_
  refine wp_block ?_
  refine St.loopC (σ := Int × Int) (fun (x : Int × Int) => match x with | (x8, x9) => ⟨[(0, [], sc g o n c), (1, [], vi f), (2, [], vi k), (8, [], vi x8), (9, [], vi x9)], [(g, .fn o (o + n) (boolsV p o))], [], (f ≤ x9 ∧ x9 ≤ f + k) ∧ (x8 = ((cntR p f.toNat (x9 - f).toNat : Nat) : Int)) ∧ True, Int.toNat (f + k - x9)⟩) (0, f) ⟨(by first | omega | (rw [show (f - f).toNat = 0 by omega]; rfl)), (by first | omega | (rw [show (f - f).toNat = 0 by omega]; rfl)), trivial⟩ hS ?_
  clear hS
  rintro ⟨x8, x9⟩ ⟨i0, i1, -⟩ ac wd hS
  replace i0 : f ≤ x9 ∧ x9 ≤ f + k := i0
  replace i1 : x8 = ((cntR p f.toNat (x9 - f).toNat : Nat) : Int) := i1
  have hb8 := cntR_le p (x9 - f).toNat f.toNat
  have hst := cnt_oneI (p := p) hw0 i0.1
  refine wp_seq ?_
  refine hS.regS [0, 0, 0, 20, 0] [0, 1, 2, 8, 9] fun _ => seg [(20, vb (decide ((x9 : Int) < (f + k))))] [(0, none)] [.p (fit .i64 (f + k))] ⟨fit_i64 (by omega), trivial⟩ fun ac wd hS => ?_
  refine hS.condC (decide ((x9 : Int) < (f + k))) (fun hb2o hb2 => ?_) (fun hb2o hb2 => ?_)
  ·
   refine wp_skip ?_
   refine pop_then ?_
   refine wp_seq ?_
   refine wp_block ?_
   refine hS.regS [0, 0, 20, fx 0 (vb (p (Int.toNat x9)))] [0, 1, 2, 8, 9] fun _ => seg [(26, vb (p (Int.toNat x9)))] [(0, none)] [.p ((((boolsV p o) (o + Int.toNat x9 * 1)) : Value) = vb (p (Int.toNat x9))), .e g, .p (o ≤ o + Int.toNat x9 * 1 ∧ o + Int.toNat x9 * 1 < (o + n)), .p ((0 : Int) ≤ x9 ∧ (x9 : Int) < ((n : Nat) : Int))] ⟨(boolsV_rel p o (Int.toNat x9)), (by omega), (by omega), trivial⟩ fun ac wd hS => ?_
   refine hS.condC (p (Int.toNat x9)) (fun hb3o hb3 => ?_) (fun hb3o hb3 => ?_)
   ·
    refine hS.regC [0, 20, 0] [0, 1, 2, 9] fun _ => seg [(8, vi (x8 + 1))] [(0, none)] [.p (fit .i64 (x8 + 1))] ⟨fit_i64 (by omega), trivial⟩ fun ac wd hS => ?_
    refine pop_block ?_
    refine pop_then ?_
    refine hS.regC [0, 20, 0] [0, 1, 2, 8] fun _ => seg [(9, vi (x9 + 1))] [(0, none)] [.p (fit .i64 (x9 + 1))] ⟨fit_i64 (by omega), trivial⟩ fun ac wd hS => ?_
    exact pop_then (hS.next ((x8 + 1), (x9 + 1)) ⟨(by first | omega | assumption | (simp; done) | (simp; omega)), (by rw [hst, i1]; simp_all), trivial⟩ (by dsimp only; omega))
   ·
    refine wp_skip ?_
    refine pop_block ?_
    refine pop_then ?_
    refine hS.regC [0, 20, 0] [0, 1, 2, 8] fun _ => seg [(9, vi (x9 + 1))] [(0, none)] [.p (fit .i64 (x9 + 1))] ⟨fit_i64 (by omega), trivial⟩ fun ac wd hS => ?_
    exact pop_then (hS.next (x8, (x9 + 1)) ⟨(by first | omega | assumption | (simp; done) | (simp; omega)), (by rw [hst, i1]; simp_all), trivial⟩ (by dsimp only; omega))
  ·
   refine wp_exit ?_
   refine pop_then_exit ?_
   refine pop_then_exit ?_
   refine pop_block_hit ?_
   refine pop_then ?_
   refine hS.regS [0, 0, 0] [] fun _ => seg [(6, vi x8), (7, vi 0)] [] [] trivial fun ac wd hS => ?_
   refine wp_ret ?_
   refine St.retC 0 hS (.tuple #[vi x8, vi 0]) [] trivial fun hw => ?_
   refine ⟨retd (tuple2 (vint ?_) (vint ?_)), hw.fr0⟩
   all_goals (first | rfl | exact cntV_no (by assumption) | exact trnE_no (by assumption) | exact trnE_yes (by assumption) | (rw [cntV_yes (by assumption), i1, show k.toNat = (x9 - f).toNat by omega]))

set_option maxRecDepth 100000 in
set_option maxHeartbeats 1000000 in
theorem ref02_First (g : Nat) (o : Nat) (c : Nat) (n : Nat) (f : Int) (v : Bool) (p : Nat → Bool) (w : World) (hh0 : HE.holds w g (.fn o (o + n) (boolsV p o))) (hn : n ≤ 1048576) :
    Calls Tryd.prog 96 #[sc g o n c, vi f, vb v] w fun e w' => e = .returned (.tuple #[vi (fst1 p n f v), vb (fst2 p n f v)]) ∧ Fr w w' no no := by
 refine enter (args := [sc g o n c, vi f, vb v]) (D := no) (A := []) Tryd.func96 rfl 27 rfl [(g, .fn o (o + n) (boolsV p o))] (WS.startL ⟨⟨rfl, hh0⟩, trivial⟩) fun ac hS => ?_
 refine hS.regS [0, 0] [0, 1, 2] fun _ => seg [] [(0, none)] [] trivial fun ac wd hS => ?_
 refine wp_seq ?_
 refine hS.regS [0, 0, 0] [1, 2] fun _ => seg [(10, sc g o n c), (11, vi ((n : Nat) : Int)), (12, vi 0)] [(0, none)] [] trivial fun ac wd hS => ?_
 refine wp_block ?_
 refine St.loopC (σ := Int) (fun (x12 : Int) => ⟨[(1, [], vi f), (2, [], vb v), (10, [], sc g o n c), (11, [], vi ((n : Nat) : Int)), (12, [], vi x12)], [(g, .fn o (o + n) (boolsV p o))], [], (0 ≤ x12 ∧ x12 ≤ (n : Int)) ∧ (∀ y, at0 f ≤ y → y < Int.toNat x12 → p y ≠ v) ∧ True, n - Int.toNat x12⟩) 0 ⟨(by first | omega | (intro y h1 h2; exact absurd h2 (by simp))), (by first | omega | (intro y h1 h2; exact absurd h2 (by simp))), trivial⟩ hS ?_
 clear hS
 rintro x12 ⟨i0, i1, -⟩ ac wd hS
 replace i0 : 0 ≤ x12 ∧ x12 ≤ (n : Int) := i0
 replace i1 : ∀ y, at0 f ≤ y → y < Int.toNat x12 → p y ≠ v := i1
 refine hS.regS [0] [1, 2, 10, 11, 12] fun _ => seg [(13, vb (decide ((x12 : Int) < ((n : Nat) : Int))))] [(0, none)] [] trivial fun ac wd hS => ?_
 refine wp_seq ?_
 refine hS.condC (decide ((x12 : Int) < ((n : Nat) : Int))) (fun hb1o hb1 => ?_) (fun hb1o hb1 => ?_)
 ·
  refine wp_skip ?_
  refine pop_then ?_
  refine wp_seq ?_
  refine wp_block ?_
  refine hS.regS [0, 20, fx 0 (vb (p (Int.toNat x12))), 0, 0] [1, 2, 10, 11, 12] fun _ => seg [(8, vi x12), (9, vb (p (Int.toNat x12)))] [(0, none)] [.p ((((boolsV p o) (o + Int.toNat x12 * 1)) : Value) = vb (p (Int.toNat x12))), .e g, .p (o ≤ o + Int.toNat x12 * 1 ∧ o + Int.toNat x12 * 1 < (o + n)), .p ((0 : Int) ≤ x12 ∧ (x12 : Int) < ((n : Nat) : Int))] ⟨(boolsV_rel p o (Int.toNat x12)), (by omega), (by omega), trivial⟩ fun ac wd hS => ?_
  refine hS.regS [0, 0, 0, 0, 3, 3, 3, 80] [1, 2, 8, 10, 11, 12] fun _ => seg [(24, vb ((decide ((f : Int) ≤ x12)) && ((p (Int.toNat x12)) == v)))] [(0, none)] [] trivial fun ac wd hS => ?_
  refine hS.condC ((decide ((f : Int) ≤ x12)) && ((p (Int.toNat x12)) == v)) (fun hb2o hb2 => ?_) (fun hb2o hb2 => ?_)
  ·
   refine hS.regS [0, 0, 0] [] fun _ => seg [(6, vi x12), (7, vb true)] [] [] trivial fun ac wd hS => ?_
   refine wp_ret ?_
   refine pop_block_ret ?_
   refine pop_then_ret ?_
   refine pop_then_ret ?_
   refine pop_block_ret ?_
   refine pop_then_ret ?_
   refine St.retC 0 hS (.tuple #[vi x12, vb true]) [] trivial fun hw => ?_
   refine ⟨retd (tuple2 (vint ?_) (vbool ?_)), hw.fr0⟩
   all_goals (first | exact (firstB_hit (x := x12) (by omega) (by simp_all) (by simp_all) i1).1 | exact (firstB_hit (x := x12) (by omega) (by simp_all) (by simp_all) i1).2 | exact (firstB_no (fun y h1 h2 => i1 y h1 (by omega))).1 | exact (firstB_no (fun y h1 h2 => i1 y h1 (by omega))).2)
  ·
   refine wp_skip ?_
   refine pop_block ?_
   refine pop_then ?_
   refine hS.regC [20, 0] [1, 2, 10, 11] fun _ => seg [(12, vi (x12 + 1))] [(0, none)] [.p (fit .i64 (x12 + 1))] ⟨fit_i64 (by omega), trivial⟩ fun ac wd hS => ?_
   exact pop_then (hS.next (x12 + 1) ⟨(by first | omega | assumption | (simp; done) | (simp; omega)), (by exact firstB_go i0.1 i1 (by simp_all)), trivial⟩ (by dsimp only; omega))
 ·
  refine wp_exit ?_
  refine pop_then_exit ?_
  refine pop_then_exit ?_
  refine pop_block_hit ?_
  refine pop_then ?_
  refine hS.regS [0, 0] [] fun _ => seg [(6, vi 0), (7, vb false)] [] [] trivial fun ac wd hS => ?_
  refine wp_ret ?_
  refine St.retC 0 hS (.tuple #[vi 0, vb false]) [] trivial fun hw => ?_
  refine ⟨retd (tuple2 (vint ?_) (vbool ?_)), hw.fr0⟩
  all_goals (first | exact (firstB_hit (x := x12) (by omega) (by simp_all) (by simp_all) i1).1 | exact (firstB_hit (x := x12) (by omega) (by simp_all) (by simp_all) i1).2 | exact (firstB_no (fun y h1 h2 => i1 y h1 (by omega))).1 | exact (firstB_no (fun y h1 h2 => i1 y h1 (by omega))).2)

set_option maxRecDepth 100000 in
set_option maxHeartbeats 1000000 in
theorem ref02_Same (g1 : Nat) (o1 : Nat) (c1 : Nat) (n1 : Nat) (g2 : Nat) (o2 : Nat) (c2 : Nat) (n2 : Nat) (p1 : Nat → Bool) (p2 : Nat → Bool) (w : World) (hh0 : HE.holds w g1 (.fn o1 (o1 + n1) (boolsV p1 o1))) (hh1 : HE.holds w g2 (.fn o2 (o2 + n2) (boolsV p2 o2))) (hn : n1 ≤ 1048576) :
    Calls Tryd.prog 23 #[sc g1 o1 n1 c1, sc g2 o2 n2 c2] w fun e w' => e = .returned (vb (eqB n1 n2 p1 p2)) ∧ Fr w w' no no := by
 refine enter (args := [sc g1 o1 n1 c1, sc g2 o2 n2 c2]) (D := no) (A := []) Tryd.func23 rfl 26 rfl [(g1, .fn o1 (o1 + n1) (boolsV p1 o1)), (g2, .fn o2 (o2 + n2) (boolsV p2 o2))] (WS.startL ⟨⟨rfl, hh0⟩, ⟨rfl, hh1⟩, trivial⟩) fun ac hS => ?_
 refine hS.regS [0] [0, 1] fun _ => seg [] [(0, none), (1, none)] [] trivial fun ac wd hS => ?_
 refine wp_seq ?_
 refine hS.regS [0, 0, 0, 0, 0] [0, 1] fun _ => seg [(10, vb ((((n1 : Nat) : Int) : Int) != ((n2 : Nat) : Int)))] [(0, none), (1, none)] [] trivial fun ac wd hS => ?_
 refine hS.condC ((((n1 : Nat) : Int) : Int) != ((n2 : Nat) : Int)) (fun hb1o hb1 => ?_) (fun hb1o hb1 => ?_)
 ·
  refine hS.regS [0] [] fun _ => seg [(4, vb false)] [] [] trivial fun ac wd hS => ?_
  refine wp_ret ?_
  refine pop_then_ret ?_
  refine St.retC 0 hS (vb false) [] trivial fun hw => ?_
  refine ⟨retd (vbool ?_), hw.fr0⟩
  all_goals (first | exact eqB_len (by omega) | exact eqB_at (x := x13) (by omega) (by simp_all) | exact eqB_all (by omega) (fun j hj => i2 j (by omega)))
 ·
  refine wp_skip ?_
  refine pop_then ?_
  refine wp_seq ?_
  refine hS.regS [0, 0, 0] [0, 1] fun _ => seg [(12, vi ((n1 : Nat) : Int)), (13, vi 0)] [(0, none), (1, none)] [] trivial fun ac wd hS => ?_
  refine wp_block ?_
  refine St.loopC (σ := Int) (fun (x13 : Int) => ⟨[(0, [], sc g1 o1 n1 c1), (1, [], sc g2 o2 n2 c2), (12, [], vi ((n1 : Nat) : Int)), (13, [], vi x13)], [(g1, .fn o1 (o1 + n1) (boolsV p1 o1)), (g2, .fn o2 (o2 + n2) (boolsV p2 o2))], [], (0 ≤ x13) ∧ (x13 ≤ (n1 : Int)) ∧ (∀ j, j < Int.toNat x13 → p1 j = p2 j) ∧ True, n1 - Int.toNat x13⟩) 0 ⟨(by first | omega | (intro j hj; exact absurd hj (by simp))), (by first | omega | (intro j hj; exact absurd hj (by simp))), (by first | omega | (intro j hj; exact absurd hj (by simp))), trivial⟩ hS ?_
  clear hS
  rintro x13 ⟨i0, i1, i2, -⟩ ac wd hS
  replace i0 : 0 ≤ x13 := i0
  replace i1 : x13 ≤ (n1 : Int) := i1
  replace i2 : ∀ j, j < Int.toNat x13 → p1 j = p2 j := i2
  refine hS.regS [0] [0, 1, 12, 13] fun _ => seg [(14, vb (decide ((x13 : Int) < ((n1 : Nat) : Int))))] [(0, none), (1, none)] [] trivial fun ac wd hS => ?_
  refine wp_seq ?_
  refine hS.condC (decide ((x13 : Int) < ((n1 : Nat) : Int))) (fun hb2o hb2 => ?_) (fun hb2o hb2 => ?_)
  ·
   refine wp_skip ?_
   refine pop_then ?_
   refine wp_seq ?_
   refine wp_block ?_
   refine hS.regS [0, 0] [0, 1, 12, 13] fun _ => seg [(5, vi x13)] [(0, none), (1, none)] [] trivial fun ac wd hS => ?_
   refine hS.drawS [0, 0, 20, fx 0 (vb (p1 (Int.toNat x13))), 0, 0, 20, fx 100 (vb (p2 (Int.toNat x13))), 0] [0, 1, 12, 13] <| seg [(24, vb (!((p1 (Int.toNat x13)) == (p2 (Int.toNat x13)))))] [(0, none), (1, none)] [.p ((((boolsV p2 o2) (o2 + Int.toNat x13 * 1)) : Value) = vb (p2 (Int.toNat x13))), .e g2, .p (o2 ≤ o2 + Int.toNat x13 * 1 ∧ o2 + Int.toNat x13 * 1 < (o2 + n2)), .p ((0 : Int) ≤ x13 ∧ (x13 : Int) < ((n2 : Nat) : Int)), .p ((((boolsV p1 o1) (o1 + Int.toNat x13 * 1)) : Value) = vb (p1 (Int.toNat x13))), .e g1, .p (o1 ≤ o1 + Int.toNat x13 * 1 ∧ o1 + Int.toNat x13 * 1 < (o1 + n1)), .p ((0 : Int) ≤ x13 ∧ (x13 : Int) < ((n1 : Nat) : Int))] ⟨(boolsV_rel p2 o2 (Int.toNat x13)), (by omega), (by omega), (boolsV_rel p1 o1 (Int.toNat x13)), (by omega), (by omega), trivial⟩ fun ac wd hS => ?_
   refine hS.condC (!((p1 (Int.toNat x13)) == (p2 (Int.toNat x13)))) (fun hb3o hb3 => ?_) (fun hb3o hb3 => ?_)
   ·
    refine hS.regS [0] [] fun _ => seg [(4, vb false)] [] [] trivial fun ac wd hS => ?_
    refine wp_ret ?_
    refine pop_block_ret ?_
    refine pop_then_ret ?_
    refine pop_then_ret ?_
    refine pop_block_ret ?_
    refine pop_then_ret ?_
    refine St.retC 0 hS (vb false) [] trivial fun hw => ?_
    refine ⟨retd (vbool ?_), hw.fr0⟩
    all_goals (first | exact eqB_len (by omega) | exact eqB_at (x := x13) (by omega) (by simp_all) | exact eqB_all (by omega) (fun j hj => i2 j (by omega)))
   ·
    refine wp_skip ?_
    refine pop_block ?_
    refine pop_then ?_
    refine hS.regC [20, 0] [0, 1, 12] fun _ => seg [(13, vi (x13 + 1))] [(0, none), (1, none)] [.p (fit .i64 (x13 + 1))] ⟨fit_i64 (by omega), trivial⟩ fun ac wd hS => ?_
    exact pop_then (hS.next (x13 + 1) ⟨(by first | omega | assumption | (simp; done) | (simp; omega)), (by first | omega | assumption | (simp; done) | (simp; omega)), (by intro j hj; rcases Nat.lt_or_ge j (Int.toNat x13) with h | h; exact i2 j h; (obtain rfl : j = Int.toNat x13 := by omega); simp_all), trivial⟩ (by dsimp only; omega))
  ·
   refine wp_exit ?_
   refine pop_then_exit ?_
   refine pop_then_exit ?_
   refine pop_block_hit ?_
   refine pop_then ?_
   refine hS.regS [0] [] fun _ => seg [(4, vb true)] [] [] trivial fun ac wd hS => ?_
   refine wp_ret ?_
   refine St.retC 0 hS (vb true) [] trivial fun hw => ?_
   refine ⟨retd (vbool ?_), hw.fr0⟩
   all_goals (first | exact eqB_len (by omega) | exact eqB_at (x := x13) (by omega) (by simp_all) | exact eqB_all (by omega) (fun j hj => i2 j (by omega)))

set_option maxRecDepth 100000 in
set_option maxHeartbeats 1000000 in
theorem ref02_Put (g : Nat) (o : Nat) (c : Nat) (n : Nat) (f : Int) (k : Int) (v : Bool) (p : Nat → Bool) (w : World) (hh0 : HE.holds w g (.fn o (o + n) (boolsV p o))) (hn : n ≤ 1048576) :
    Calls Tryd.prog 89 #[sc g o n c, vi f, vi k, vb v] w fun e w' => ∃ (g2 : Nat) (o2 : Nat) (c2 : Nat), e = .returned (.tuple #[sc g2 o2 n c2, vi (trnE n f k)]) ∧ (g2 = g ∨ w.heap.size ≤ g2) ∧ HE.holds w' g2 (.fn o2 (o2 + n) (boolsV (trn p n f k v) o2)) ∧ Fr w w' no no := by
 refine enter (args := [sc g o n c, vi f, vi k, vb v]) (D := no) (A := []) Tryd.func89 rfl 49 rfl [(g, .fn o (o + n) (boolsV p o))] (WS.startL ⟨⟨rfl, hh0⟩, trivial⟩) fun ac hS => ?_
 refine hS.regS [0, 0] [0, 1, 2, 3] fun _ => seg [] [(0, none)] [] trivial fun ac wd hS => ?_
 refine wp_seq ?_
 refine wp_region_seq ?_
 refine hS.opsC 3 [0, 0, 0] [0, 1, 2, 3] fun _ => seg [(13, sc g o n c), (14, vi f), (15, vi k)] [(0, none)] [] trivial fun ac wd hS => ?_
 refine hS.call0 182 #[sc g o n c, vi f, vi k] 16 (ref02_Within g o c n f k _  (by first | assumption | omega | (simp_all; done) | (simp_all; omega))) fun ac wd hS => ?_
 refine hS.opsC 1 [0] [0, 1, 2, 3] fun _ => seg [(17, vb (!(wth n f k)))] [(0, none)] [] trivial fun ac wd hS => ?_
 refine list_nil_seq ?_
 refine hS.condC (!(wth n f k)) (fun hb1o hb1 => ?_) (fun hb1o hb1 => ?_)
 ·
  have hwf : wth n f k = false := by simpa using hb1o
  have hpf : trn p n f k v = p := trn_no hwf
  rw [hpf]
  refine hS.regS [0, 0, 0] [] fun _ => seg [(8, sc g o n c), (9, vi 3)] [(0, none)] [] trivial fun ac wd hS => ?_
  refine wp_ret ?_
  refine pop_then_ret ?_
  refine St.retC 0 hS (.tuple #[sc g o n c, vi 3]) [] trivial fun hw => ?_
  refine ⟨g, o, c, retd (tuple2 rfl (vint ?_)), (.inl rfl), (hw.get 0 g (.fn o (o + n) (boolsV p o))), hw.fr0⟩
  all_goals (first | rfl | exact trnE_no (by assumption) | exact trnE_yes (by assumption))
 ·
  have hwt : wth n f k = true := by simpa using hb1o
  obtain ⟨hw0, hw1, hw2⟩ := wth_facts hwt
  refine wp_skip ?_
  refine pop_then ?_
  refine hS.regS [0, 0, 90, 0] [0, 1, 2, 3] fun ν5 => seg [(10, sc (ν5 0) 0 n n)] [(0, none), (1, some ((ν5 0), .row 4 n n (boolsV (fun _ => false) 0)))] [.p ((((n : Nat) : Int) : Int) = ((n : Nat) : Int)), .p ((0 : Int) ≤ ((n : Nat) : Int) ∧ (((n : Nat) : Int) : Int) ≤ 2 ^ 32 ∧ 1 ≤ 64)] ⟨rfl, (by omega), trivial⟩ fun ac wd hS => ?_
  refine wp_seq ?_
  refine hS.regS [0, 0, 0] [1, 2, 3, 10] fun _ => seg [(22, sc g o n c), (23, vi ((n : Nat) : Int)), (24, vi 0)] [(0, none), (1, none)] [] trivial fun ac wd hS => ?_
  refine wp_block ?_
  refine St.loopC (σ := Int × (Nat → Bool)) (fun (x : Int × (Nat → Bool)) => match x with | (x24, qx) => ⟨[(1, [], vi f), (2, [], vi k), (3, [], vb v), (10, [], sc (ν5 0) 0 n n), (22, [], sc g o n c), (23, [], vi ((n : Nat) : Int)), (24, [], vi x24)], [(g, .fn o (o + n) (boolsV p o)), ((ν5 0), .row 4 n n (boolsV qx 0))], [], (0 ≤ x24 ∧ x24 ≤ (n : Int)) ∧ (∀ y, y < Int.toNat x24 → qx y = trn p n f k v y) ∧ True, n - Int.toNat x24⟩) (0, (fun _ => false)) ⟨(by first | omega | (intro y hy; exact absurd hy (by simp))), (by first | omega | (intro y hy; exact absurd hy (by simp))), trivial⟩ hS ?_
  clear hS
  rintro ⟨x24, qx⟩ ⟨i0, i1, -⟩ ac wd hS
  replace i0 : 0 ≤ x24 ∧ x24 ≤ (n : Int) := i0
  replace i1 : ∀ y, y < Int.toNat x24 → qx y = trn p n f k v y := i1
  refine hS.regS [0] [1, 2, 3, 10, 22, 23, 24] fun _ => seg [(25, vb (decide ((x24 : Int) < ((n : Nat) : Int))))] [(0, none), (1, none)] [] trivial fun ac wd hS => ?_
  refine wp_seq ?_
  refine hS.condC (decide ((x24 : Int) < ((n : Nat) : Int))) (fun hb2o hb2 => ?_) (fun hb2o hb2 => ?_)
  ·
   refine wp_skip ?_
   refine pop_then ?_
   refine wp_seq ?_
   refine wp_block ?_
   refine hS.regS [0, 20, fx 0 (vb (p (Int.toNat x24))), 0, 0] [1, 2, 3, 10, 22, 23, 24] fun _ => seg [(11, vi x24), (12, vb (p (Int.toNat x24)))] [(0, none), (1, none)] [.p ((((boolsV p o) (o + Int.toNat x24 * 1)) : Value) = vb (p (Int.toNat x24))), .e g, .p (o ≤ o + Int.toNat x24 * 1 ∧ o + Int.toNat x24 * 1 < (o + n)), .p ((0 : Int) ≤ x24 ∧ (x24 : Int) < ((n : Nat) : Int))] ⟨(boolsV_rel p o (Int.toNat x24)), (by omega), (by omega), trivial⟩ fun ac wd hS => ?_
   refine hS.regS [0, 0, 0, 10, 100] [1, 2, 3, 10, 11, 22, 23, 24] fun _ => seg [] [(0, none), (1, some ((ν5 0), .row 4 n n (fun x => if x = Int.toNat x24 then vb (p (Int.toNat x24)) else (boolsV qx 0) x)))] [.e (ν5 0), .p (Int.toNat x24 < n), .p ((0 : Int) ≤ x24 ∧ (x24 : Int) < ((n : Nat) : Int))] ⟨(by omega), (by omega), trivial⟩ fun ac wd hS => ?_
   replace hS := hS.to (hS.mem.tellR 1 (b := (ν5 0)) (e := 4) (m := n) (tot := n) (f := (fun x => if x = Int.toNat x24 then vb (p (Int.toNat x24)) else (boolsV qx 0) x)) (boolsV (putB qx (Int.toNat x24) (p (Int.toNat x24))) 0) (fun o ho => boolsV_putv qx (Int.toNat x24) (p (Int.toNat x24)) o))
   refine hS.regS [0, 0, 0, 0, 3, 3, 3, 23, 3, 80] [1, 2, 3, 10, 11, 22, 23, 24] fun _ => seg [(42, vb ((decide ((f : Int) ≤ x24)) && (decide ((x24 : Int) < (f + k)))))] [(0, none), (1, none)] [.p ((((decide ((f : Int) ≤ x24)) = true) ∧ True) → AllP [fit .i64 (f + k)])] ⟨(fun ⟨hc0, _⟩ => by replace hc0 := nrm hc0; exact ⟨fit_i64 (by omega), trivial⟩), trivial⟩ fun ac wd hS => ?_
   refine hS.condC ((decide ((f : Int) ≤ x24)) && (decide ((x24 : Int) < (f + k)))) (fun hb3o hb3 => ?_) (fun hb3o hb3 => ?_)
   ·
    refine hS.regC [0, 0, 0, 10, 100] [1, 2, 3, 10, 22, 23, 24] fun _ => seg [] [(0, none), (1, some ((ν5 0), .row 4 n n (fun x => if x = Int.toNat x24 then vb v else (boolsV (putB qx (Int.toNat x24) (p (Int.toNat x24))) 0) x)))] [.e (ν5 0), .p (Int.toNat x24 < n), .p ((0 : Int) ≤ x24 ∧ (x24 : Int) < ((n : Nat) : Int))] ⟨(by omega), (by omega), trivial⟩ fun ac wd hS => ?_
    replace hS := hS.to (hS.mem.tellR 1 (b := (ν5 0)) (e := 4) (m := n) (tot := n) (f := (fun x => if x = Int.toNat x24 then vb v else (boolsV (putB qx (Int.toNat x24) (p (Int.toNat x24))) 0) x)) (boolsV (putB (putB qx (Int.toNat x24) (p (Int.toNat x24))) (Int.toNat x24) v) 0) (fun o ho => boolsV_putv (putB qx (Int.toNat x24) (p (Int.toNat x24))) (Int.toNat x24) v o))
    refine pop_block ?_
    refine pop_then ?_
    refine hS.regC [20, 0] [1, 2, 3, 10, 22, 23] fun _ => seg [(24, vi (x24 + 1))] [(0, none), (1, none)] [.p (fit .i64 (x24 + 1))] ⟨fit_i64 (by omega), trivial⟩ fun ac wd hS => ?_
    exact pop_then (hS.next ((x24 + 1), (putB (putB qx (Int.toNat x24) (p (Int.toNat x24))) (Int.toNat x24) v)) ⟨(by first | omega | assumption | (simp; done) | (simp; omega)), (by first | exact put_in hwt i0.1 i1 (by omega) | exact put_out hwt i0.1 i1 (by omega) | exact put_in hwt i0.1 i1 (by simp_all; done) | exact put_out hwt i0.1 i1 (by simp_all; done) | exact put_out hwt i0.1 i1 (by simp_all; omega)), trivial⟩ (by dsimp only; omega))
   ·
    refine wp_skip ?_
    refine pop_block ?_
    refine pop_then ?_
    refine hS.regC [20, 0] [1, 2, 3, 10, 22, 23] fun _ => seg [(24, vi (x24 + 1))] [(0, none), (1, none)] [.p (fit .i64 (x24 + 1))] ⟨fit_i64 (by omega), trivial⟩ fun ac wd hS => ?_
    exact pop_then (hS.next ((x24 + 1), (putB qx (Int.toNat x24) (p (Int.toNat x24)))) ⟨(by first | omega | assumption | (simp; done) | (simp; omega)), (by first | exact put_in hwt i0.1 i1 (by omega) | exact put_out hwt i0.1 i1 (by omega) | exact put_in hwt i0.1 i1 (by simp_all; done) | exact put_out hwt i0.1 i1 (by simp_all; done) | exact put_out hwt i0.1 i1 (by simp_all; omega)), trivial⟩ (by dsimp only; omega))
  ·
   refine wp_exit ?_
   refine pop_then_exit ?_
   refine pop_then_exit ?_
   refine pop_block_hit ?_
   refine pop_then ?_
   refine hS.regS [0, 0, 0] [] fun _ => seg [(8, sc (ν5 0) 0 n n), (9, vi 0)] [(1, none)] [] trivial fun ac wd hS => ?_
   refine wp_ret ?_
   replace hS := hS.to (hS.mem.tellR 0 (b := (ν5 0)) (e := 4) (m := n) (tot := n) (f := (boolsV qx 0)) (boolsV (trn p n f k v) 0) (fun o ho => by unfold boolsV; rw [i1 _ (by omega)]))
   refine St.retC 0 hS (.tuple #[sc (ν5 0) 0 n n, vi 0]) [] trivial fun hw => ?_
   refine ⟨(ν5 0), 0, n, retd (tuple2 rfl (vint ?_)), (.inr ((hw.getm 0 (ν5 0) (.row 4 n n (boolsV (trn p n f k v) 0))).resolve_right (fun h => h))), (HE.fn_hi (by omega) (HE.of_row (hw.get 0 (ν5 0) (.row 4 n n (boolsV (trn p n f k v) 0))) (fun _ _ => rfl))), hw.fr0⟩
   all_goals (first | rfl | exact trnE_no (by assumption) | exact trnE_yes (by assumption))

set_option maxRecDepth 100000 in
set_option maxHeartbeats 1000000 in
theorem ref02_Rows_some (g : Nat) (o : Nat) (c : Nat) (n : Nat) (p : Nat → Bool) (w : World) (hh0 : HE.holds w g (.fn o (o + n) (boolsV p o))) (hn : n ≤ 1048576) (hne : rowsUp p n ≠ []) :
    Calls Tryd.prog 98 #[sc g o n c] w fun e w' => ∃ (g2 : Nat) (c2 : Nat), e = .returned (sc g2 0 ((rowsUp p n).length) c2) ∧ w.heap.size ≤ g2 ∧ HE.holds w' g2 (.fn 0 (0 + (rowsUp p n).length) (ints (rowsUp p n) 0)) ∧ Fr w w' no no := by
 have hpz := List.length_pos_iff.2 hne
 refine enter (args := [sc g o n c]) (D := no) (A := []) Tryd.func98 rfl 39 rfl [(g, .fn o (o + n) (boolsV p o))] (WS.startL ⟨⟨rfl, hh0⟩, trivial⟩) fun ac hS => ?_
 refine hS.regS [0] [0] fun _ => seg [] [(0, none)] [] trivial fun ac wd hS => ?_
 refine hS.regS [0] [0] fun _ => seg [(3, vnil)] [(0, none)] [] trivial fun ac wd hS => ?_
 refine wp_seq ?_
 replace hS := hS.to (hS.mem.grNew 3 1 (ints (rowsUp p (Int.toNat 0)) 0))
 refine hS.regS [0, 0, 0] [0, 3] fun _ => seg [(6, sc g o n c), (7, vi ((n : Nat) : Int)), (8, vi 0)] [(0, none)] [] trivial fun ac wd hS => ?_
 refine wp_block ?_
 refine St.loopC (σ := Int × Option Addr × Nat × (Nat → Prop)) (fun (x : Int × Option Addr × Nat × (Nat → Prop)) => match x with | (x8, xo, xc, Fx) => ⟨[(0, [], sc g o n c), (3, [], .slice xo ((rowsUp p (Int.toNat x8)).length) xc), (6, [], sc g o n c), (7, [], vi ((n : Nat) : Int)), (8, [], vi x8)], [(g, .fn o (o + n) (boolsV p o))], [grR 3 1 (.slice xo (rowsUp p (Int.toNat x8)).length xc) Fx ((rowsUp p (Int.toNat x8)).length, (ints (rowsUp p (Int.toNat x8)) 0))], (0 ≤ x8 ∧ x8 ≤ (n : Int)) ∧ True, n - Int.toNat x8⟩) (0, none, 0, no) ⟨(by omega), trivial⟩ hS ?_
 clear hS
 rintro ⟨x8, xo, xc, Fx⟩ ⟨i0, -⟩ ac wd hS
 replace i0 : 0 ≤ x8 ∧ x8 ≤ (n : Int) := i0
 refine hS.regS [0] [0, 3, 6, 7, 8] fun _ => seg [(9, vb (decide ((x8 : Int) < ((n : Nat) : Int))))] [(0, none)] [] trivial fun ac wd hS => ?_
 refine wp_seq ?_
 refine hS.condC (decide ((x8 : Int) < ((n : Nat) : Int))) (fun hb1o hb1 => ?_) (fun hb1o hb1 => ?_)
 ·
  refine wp_skip ?_
  refine pop_then ?_
  refine wp_seq ?_
  refine wp_block ?_
  refine hS.regS [0, 20, fx 0 (vb (p (Int.toNat x8))), 0, 0] [0, 3, 6, 7, 8] fun _ => seg [(4, vi x8), (5, vb (p (Int.toNat x8)))] [(0, none)] [.p ((((boolsV p o) (o + Int.toNat x8 * 1)) : Value) = vb (p (Int.toNat x8))), .e g, .p (o ≤ o + Int.toNat x8 * 1 ∧ o + Int.toNat x8 * 1 < (o + n)), .p ((0 : Int) ≤ x8 ∧ (x8 : Int) < ((n : Nat) : Int))] ⟨(boolsV_rel p o (Int.toNat x8)), (by omega), (by omega), trivial⟩ fun ac wd hS => ?_
  refine wp_seq ?_
  refine hS.regS [0, 0] [0, 3, 4, 6, 7, 8] fun _ => seg [(14, vb (!(p (Int.toNat x8))))] [(0, none)] [] trivial fun ac wd hS => ?_
  refine hS.condC (!(p (Int.toNat x8))) (fun hb2o hb2 => ?_) (fun hb2o hb2 => ?_)
  ·
   refine wp_exit ?_
   refine pop_then_exit ?_
   refine pop_block_hit ?_
   refine pop_then ?_
   refine hS.regC [20, 0] [0, 3, 6, 7] fun _ => seg [(8, vi (x8 + 1))] [(0, none)] [.p (fit .i64 (x8 + 1))] ⟨fit_i64 (by omega), trivial⟩ fun ac wd hS => ?_
   have hu_ : (rowsUp p (Int.toNat (x8 + 1))) = (rowsUp p (Int.toNat x8)) := up_skip i0.1 (by first | assumption | (simp_all; done))
   replace hS := hS.to (hS.mem.grTell (m := ((rowsUp p (Int.toNat x8)).length)) (f := (ints (rowsUp p (Int.toNat x8)) 0)) 0 (ints (rowsUp p (Int.toNat (x8 + 1))) 0) (fun o _ => by rw [hu_]))
   have hm_ : (rowsUp p (Int.toNat x8)).length = ((rowsUp p (Int.toNat (x8 + 1)))).length := by rw [hu_]
   replace hS := hS.to (hS.mem.grRe (v := .slice xo ((rowsUp p (Int.toNat x8)).length) xc) (v' := .slice xo (((rowsUp p (Int.toNat (x8 + 1)))).length) xc) (m := ((rowsUp p (Int.toNat x8)).length)) (m' := ((rowsUp p (Int.toNat (x8 + 1)))).length) (f := (ints (rowsUp p (Int.toNat (x8 + 1))) 0)) 0 (by rw [hm_]) hm_)
   replace hS := hS.fix 3 (.slice xo (((rowsUp p (Int.toNat (x8 + 1)))).length) xc) (show (.slice xo ((rowsUp p (Int.toNat x8)).length) xc : Value) = .slice xo (((rowsUp p (Int.toNat (x8 + 1)))).length) xc by rw [hm_])
   exact pop_then (hS.next ((x8 + 1), xo, xc, Fx) ⟨(by first | omega | assumption | (simp; done) | (simp; omega)), trivial⟩ (by dsimp only; omega))
  ·
   refine wp_skip ?_
   refine pop_then ?_
   refine wp_seq ?_
   refine hS.regS [0, 0, 0, 3, 3, 23, 23, fx 3 (vb (p (Int.toNat (x8 - 1)))), 3, 80] [0, 3, 4, 6, 7, 8] fun _ => seg [(24, vb (((x8 : Int) == 0) || (!(p (Int.toNat (x8 - 1))))))] [(0, none)] [.p (((((x8 : Int) == 0) = false) ∧ True) → AllP [(((boolsV p o) (o + Int.toNat (x8 - 1) * 1)) : Value) = vb (p (Int.toNat (x8 - 1))), (g : Nat) = g, o ≤ o + Int.toNat (x8 - 1) * 1 ∧ o + Int.toNat (x8 - 1) * 1 < (o + n)]), .p (((((x8 : Int) == 0) = false) ∧ True) → AllP [(0 : Int) ≤ (x8 - 1) ∧ ((x8 - 1) : Int) < ((n : Nat) : Int)]), .p (((((x8 : Int) == 0) = false) ∧ True) → AllP [fit .i64 (x8 - 1)])] ⟨(fun ⟨hc0, _⟩ => by replace hc0 := nrm hc0; exact ⟨(boolsV_rel p o (Int.toNat (x8 - 1))), rfl, (by omega), trivial⟩), (fun ⟨hc0, _⟩ => by replace hc0 := nrm hc0; exact ⟨(by omega), trivial⟩), (fun ⟨hc0, _⟩ => by replace hc0 := nrm hc0; exact ⟨fit_i64 (by omega), trivial⟩), trivial⟩ fun ac wd hS => ?_
   refine hS.condC (((x8 : Int) == 0) || (!(p (Int.toNat (x8 - 1))))) (fun hb3o hb3 => ?_) (fun hb3o hb3 => ?_)
   ·
    have hsn : x8 = 0 ∨ p (Int.toNat (x8 - 1)) = false := by have h9_ := hb3o; rw [Bool.or_eq_true] at h9_; rcases h9_ with q | q; exact .inl (eq_of_beq q); exact .inr (by simpa only [Bool.not_eq_true'] using q)
    refine wp_region_lit ?_
    refine hS.opsC 3 [0, 0, 0] [0, 3, 6, 7, 8] fun ν9 => seg [(25, .slice xo ((rowsUp p (Int.toNat x8)).length) xc), (27, sc (ν9 0) 0 2 2)] [(0, none), (1, some ((ν9 0), .cells [vi x8, vi 0] 3))] [] trivial fun ac wd hS => ?_
    obtain ⟨i_, hi_, hz_, hs_, hb_⟩ := info_get (P := Tryd.prog) (e := 3) (z := vi 0) (s := 1) (b := 8) (by kernel_rfl)
    refine Runs1.list ?_
    refine St.appVK (k := 2) (m := ((rowsUp p (Int.toNat x8)).length)) (f := (ints (rowsUp p (Int.toNat x8)) 0)) (news := [vi x8, vi 0]) (bx := (ν9 0)) (cx := 2) (Tx := 3) 0 hS (.tmp 25) (.tmp 27) 34 rfl rfl (by decide) Tryd.underlying34 hi_ hz_ hs_ (by omega) rfl (by decide) 1 rfl rfl (by (have h9_ := up_len (p := p) i0.1 (show x8 ≤ 1048576 by omega); omega)) fun ac wd v2_ F6 hB7 hS => ?_
    obtain ⟨xo4, xc5, rfl⟩ := hB7.slice
    replace hS := hS.to (hS.mem.grTell (m := (((rowsUp p (Int.toNat x8)).length) + 2)) (f := (appF (ints (rowsUp p (Int.toNat x8)) 0) (((rowsUp p (Int.toNat x8)).length) * 1) [vi x8, vi 0])) 0 (ints ((rowsUp p (Int.toNat x8)) ++ [x8, 0]) 0) (ints_app2 (rowsUp p (Int.toNat x8)) x8 0))
    have hm_ : ((rowsUp p (Int.toNat x8)).length) + 2 = (((rowsUp p (Int.toNat x8)) ++ [x8, 0])).length := by simp
    replace hS := hS.to (hS.mem.grRe (v := .slice xo4 (((rowsUp p (Int.toNat x8)).length) + 2) xc5) (v' := .slice xo4 ((((rowsUp p (Int.toNat x8)) ++ [x8, 0])).length) xc5) (m := (((rowsUp p (Int.toNat x8)).length) + 2)) (m' := (((rowsUp p (Int.toNat x8)) ++ [x8, 0])).length) (f := (ints ((rowsUp p (Int.toNat x8)) ++ [x8, 0]) 0)) 0 (by rw [hm_]) hm_)
    replace hS := hS.fix 28 (.slice xo4 ((((rowsUp p (Int.toNat x8)) ++ [x8, 0])).length) xc5) (show (.slice xo4 (((rowsUp p (Int.toNat x8)).length) + 2) xc5 : Value) = .slice xo4 ((((rowsUp p (Int.toNat x8)) ++ [x8, 0])).length) xc5 by rw [hm_])
    refine hS.opsC 1 [0] [0, 6, 7, 8] fun _ => seg [(3, .slice xo4 ((((rowsUp p (Int.toNat x8)) ++ [x8, 0])).length) xc5)] [(0, none)] [] trivial fun ac wd hS => ?_
    refine list_nil ?_
    refine pop_then ?_
    have hpl : 0 < (((rowsUp p (Int.toNat x8)) ++ [x8, 0])).length := by first | (simp; done) | exact up_pos i0.1 hsf.1 hsf.2
    have hll : (((rowsUp p (Int.toNat x8)) ++ [x8, 0])).length ≤ 2097154 := by have h9_ := up_len (p := p) i0.1 (show x8 ≤ 1048576 by omega); first | omega | (rw [List.length_append]; simp; omega)
    have hbl := fun i_ => (show 0 ≤ List.getD ((rowsUp p (Int.toNat x8)) ++ [x8, 0]) i_ 0 ∧ List.getD ((rowsUp p (Int.toNat x8)) ++ [x8, 0]) i_ 0 ≤ 1048576 from by first | exact up_bd i0.1 (by omega) i_ | exact up_bd2 i0.1 (by omega) i_)
    have hb1 := hbl (Int.toNat (((((rowsUp p (Int.toNat x8)) ++ [x8, 0]).length : Nat) : Int) - 1))
    obtain ⟨gg8, cp9, hv_, hcp_, hO⟩ := WS.grOpen (e := 3) (sz := 1) (m := ((((rowsUp p (Int.toNat x8)) ++ [x8, 0])).length)) (f := (ints ((rowsUp p (Int.toNat x8)) ++ [x8, 0]) 0)) hS.mem (by omega)
    simp only [Nat.mul_one] at hO
    obtain ⟨rfl, rfl⟩ : some (⟨gg8, 0, none⟩ : Addr) = xo4 ∧ cp9 = xc5 := by cases hv_; exact ⟨rfl, rfl⟩
    clear hv_
    replace hS := hS.to hO
    clear hO
    refine hS.regC [0, 0, 0, 20, 10, fx 100 (vi (List.getD ((rowsUp p (Int.toNat x8)) ++ [x8, 0]) (Int.toNat ((((((rowsUp p (Int.toNat x8)) ++ [x8, 0])).length : Nat) : Int) - 1)) 0)), 20, 10, 100] [0, 3, 6, 7, 8] fun _ => seg [] [(0, none), (1, some (gg8, .row 3 ((((rowsUp p (Int.toNat x8)) ++ [x8, 0])).length) cp9 (fun x => if x = Int.toNat ((((((rowsUp p (Int.toNat x8)) ++ [x8, 0])).length : Nat) : Int) - 1) then vi ((List.getD ((rowsUp p (Int.toNat x8)) ++ [x8, 0]) (Int.toNat ((((((rowsUp p (Int.toNat x8)) ++ [x8, 0])).length : Nat) : Int) - 1)) 0) + 1) else (ints ((rowsUp p (Int.toNat x8)) ++ [x8, 0]) 0) x)))] [.e gg8, .p (Int.toNat ((((((rowsUp p (Int.toNat x8)) ++ [x8, 0])).length : Nat) : Int) - 1) < ((((rowsUp p (Int.toNat x8)) ++ [x8, 0])).length)), .p ((0 : Int) ≤ ((((((rowsUp p (Int.toNat x8)) ++ [x8, 0])).length : Nat) : Int) - 1) ∧ (((((((rowsUp p (Int.toNat x8)) ++ [x8, 0])).length : Nat) : Int) - 1) : Int) < (((((rowsUp p (Int.toNat x8)) ++ [x8, 0])).length : Nat) : Int)), .p (fit .i64 ((List.getD ((rowsUp p (Int.toNat x8)) ++ [x8, 0]) (Int.toNat ((((((rowsUp p (Int.toNat x8)) ++ [x8, 0])).length : Nat) : Int) - 1)) 0) + 1)), .p ((((ints ((rowsUp p (Int.toNat x8)) ++ [x8, 0]) 0) (Int.toNat ((((((rowsUp p (Int.toNat x8)) ++ [x8, 0])).length : Nat) : Int) - 1))) : Value) = vi (List.getD ((rowsUp p (Int.toNat x8)) ++ [x8, 0]) (Int.toNat ((((((rowsUp p (Int.toNat x8)) ++ [x8, 0])).length : Nat) : Int) - 1)) 0)), .e gg8, .p (Int.toNat ((((((rowsUp p (Int.toNat x8)) ++ [x8, 0])).length : Nat) : Int) - 1) < ((((rowsUp p (Int.toNat x8)) ++ [x8, 0])).length)), .p ((0 : Int) ≤ ((((((rowsUp p (Int.toNat x8)) ++ [x8, 0])).length : Nat) : Int) - 1) ∧ (((((((rowsUp p (Int.toNat x8)) ++ [x8, 0])).length : Nat) : Int) - 1) : Int) < (((((rowsUp p (Int.toNat x8)) ++ [x8, 0])).length : Nat) : Int)), .p (fit .i64 ((((((rowsUp p (Int.toNat x8)) ++ [x8, 0])).length : Nat) : Int) - 1))] ⟨(by omega), (by omega), fit_i64 (by omega), (ints_abs ((rowsUp p (Int.toNat x8)) ++ [x8, 0]) (Int.toNat ((((((rowsUp p (Int.toNat x8)) ++ [x8, 0])).length : Nat) : Int) - 1))), (by omega), (by omega), fit_i64 (by omega), trivial⟩ fun ac wd hS => ?_
    replace hS := hS.to (hS.mem.tellR 1 (b := gg8) (e := 3) (m := ((((rowsUp p (Int.toNat x8)) ++ [x8, 0])).length)) (tot := cp9) (f := (fun x => if x = Int.toNat ((((((rowsUp p (Int.toNat x8)) ++ [x8, 0])).length : Nat) : Int) - 1) then vi ((List.getD ((rowsUp p (Int.toNat x8)) ++ [x8, 0]) (Int.toNat ((((((rowsUp p (Int.toNat x8)) ++ [x8, 0])).length : Nat) : Int) - 1)) 0) + 1) else (ints ((rowsUp p (Int.toNat x8)) ++ [x8, 0]) 0) x)) (ints (List.set ((rowsUp p (Int.toNat x8)) ++ [x8, 0]) (Int.toNat ((((((rowsUp p (Int.toNat x8)) ++ [x8, 0])).length : Nat) : Int) - 1)) ((List.getD ((rowsUp p (Int.toNat x8)) ++ [x8, 0]) (Int.toNat ((((((rowsUp p (Int.toNat x8)) ++ [x8, 0])).length : Nat) : Int) - 1)) 0) + 1)) 0) (fun o ho => ints_setv ((rowsUp p (Int.toNat x8)) ++ [x8, 0]) (Int.toNat ((((((rowsUp p (Int.toNat x8)) ++ [x8, 0])).length : Nat) : Int) - 1)) ((List.getD ((rowsUp p (Int.toNat x8)) ++ [x8, 0]) (Int.toNat ((((((rowsUp p (Int.toNat x8)) ++ [x8, 0])).length : Nat) : Int) - 1)) 0) + 1) (by omega) o ho))
    refine pop_block ?_
    refine pop_then ?_
    refine hS.regC [20, 0] [0, 3, 6, 7] fun _ => seg [(8, vi (x8 + 1))] [(0, none), (1, none)] [.p (fit .i64 (x8 + 1))] ⟨fit_i64 (by omega), trivial⟩ fun ac wd hS => ?_
    have hu_ : (rowsUp p (Int.toNat (x8 + 1))) = (List.set ((rowsUp p (Int.toNat x8)) ++ [x8, 0]) (Int.toNat ((((((rowsUp p (Int.toNat x8)) ++ [x8, 0])).length : Nat) : Int) - 1)) ((List.getD ((rowsUp p (Int.toNat x8)) ++ [x8, 0]) (Int.toNat ((((((rowsUp p (Int.toNat x8)) ++ [x8, 0])).length : Nat) : Int) - 1)) 0) + 1)) := by first | (rw [up_new i0.1 (by first | assumption | (simp_all; done)) hsn]; rfl) | (rw [up_more i0.1 (by first | assumption | (simp_all; done)) hsf.1 hsf.2]; rfl)
    replace hS := hS.to (hS.mem.tellR 1 (b := gg8) (e := 3) (m := ((((rowsUp p (Int.toNat x8)) ++ [x8, 0])).length)) (tot := cp9) (f := (ints (List.set ((rowsUp p (Int.toNat x8)) ++ [x8, 0]) (Int.toNat ((((((rowsUp p (Int.toNat x8)) ++ [x8, 0])).length : Nat) : Int) - 1)) ((List.getD ((rowsUp p (Int.toNat x8)) ++ [x8, 0]) (Int.toNat ((((((rowsUp p (Int.toNat x8)) ++ [x8, 0])).length : Nat) : Int) - 1)) 0) + 1)) 0)) (ints (rowsUp p (Int.toNat (x8 + 1))) 0) (fun o _ => by rw [hu_]))
    replace hS := hS.to (WS.grBack1 (e := 3) (m := (((rowsUp p (Int.toNat x8)) ++ [x8, 0])).length) (tot := cp9) (g := gg8) (f := (ints (rowsUp p (Int.toNat (x8 + 1))) 0)) hS.mem 1 [0] (by omega) (by omega) (H' := [(g, .fn o (o + n) (boolsV p o))]))
    have hm_ : (((rowsUp p (Int.toNat x8)) ++ [x8, 0])).length = (rowsUp p (Int.toNat (x8 + 1))).length := by rw [hu_, List.length_set]
    replace hS := hS.to (hS.mem.grRe (v := .slice (some ⟨gg8, 0, none⟩) ((((rowsUp p (Int.toNat x8)) ++ [x8, 0])).length) cp9) (v' := .slice (some ⟨gg8, 0, none⟩) ((rowsUp p (Int.toNat (x8 + 1))).length) cp9) (m := ((((rowsUp p (Int.toNat x8)) ++ [x8, 0])).length)) (m' := (rowsUp p (Int.toNat (x8 + 1))).length) (f := (ints (rowsUp p (Int.toNat (x8 + 1))) 0)) 0 (by rw [hm_]) hm_)
    replace hS := hS.fix 3 (.slice (some ⟨gg8, 0, none⟩) ((rowsUp p (Int.toNat (x8 + 1))).length) cp9) (show (.slice (some ⟨gg8, 0, none⟩) ((((rowsUp p (Int.toNat x8)) ++ [x8, 0])).length) cp9 : Value) = .slice (some ⟨gg8, 0, none⟩) ((rowsUp p (Int.toNat (x8 + 1))).length) cp9 by rw [hm_])
    exact pop_then (hS.next ((x8 + 1), (some ⟨gg8, 0, none⟩), cp9, one gg8) ⟨(by first | omega | assumption | (simp; done) | (simp; omega)), trivial⟩ (by dsimp only; omega))
   ·
    have hsf : ¬ x8 = 0 ∧ p (Int.toNat (x8 - 1)) = true := by have h9_ := hb3o; rw [Bool.or_eq_false_iff] at h9_; exact ⟨fun q => by rw [q] at h9_; exact absurd h9_.1 (by decide), by have h8_ := h9_.2; (cases hq : p (Int.toNat (x8 - 1)); rw [hq] at h8_; exact absurd h8_ (by decide); rfl)⟩
    refine wp_skip ?_
    refine pop_then ?_
    have hpl : 0 < ((rowsUp p (Int.toNat x8))).length := by first | (simp; done) | exact up_pos i0.1 hsf.1 hsf.2
    have hll : ((rowsUp p (Int.toNat x8))).length ≤ 2097154 := by have h9_ := up_len (p := p) i0.1 (show x8 ≤ 1048576 by omega); first | omega | (rw [List.length_append]; simp; omega)
    have hbl := fun i_ => (show 0 ≤ List.getD (rowsUp p (Int.toNat x8)) i_ 0 ∧ List.getD (rowsUp p (Int.toNat x8)) i_ 0 ≤ 1048576 from by first | exact up_bd i0.1 (by omega) i_ | exact up_bd2 i0.1 (by omega) i_)
    have hb1 := hbl (Int.toNat ((((rowsUp p (Int.toNat x8)).length : Nat) : Int) - 1))
    obtain ⟨gg10, cp11, hv_, hcp_, hO⟩ := WS.grOpen (e := 3) (sz := 1) (m := ((rowsUp p (Int.toNat x8)).length)) (f := (ints (rowsUp p (Int.toNat x8)) 0)) hS.mem (by omega)
    simp only [Nat.mul_one] at hO
    obtain ⟨rfl, rfl⟩ : some (⟨gg10, 0, none⟩ : Addr) = xo ∧ cp11 = xc := by cases hv_; exact ⟨rfl, rfl⟩
    clear hv_
    replace hS := hS.to hO
    clear hO
    refine hS.regC [0, 0, 0, 20, 10, fx 100 (vi (List.getD (rowsUp p (Int.toNat x8)) (Int.toNat ((((rowsUp p (Int.toNat x8)).length : Nat) : Int) - 1)) 0)), 20, 10, 100] [0, 3, 6, 7, 8] fun _ => seg [] [(0, none), (1, some (gg10, .row 3 ((rowsUp p (Int.toNat x8)).length) cp11 (fun x => if x = Int.toNat ((((rowsUp p (Int.toNat x8)).length : Nat) : Int) - 1) then vi ((List.getD (rowsUp p (Int.toNat x8)) (Int.toNat ((((rowsUp p (Int.toNat x8)).length : Nat) : Int) - 1)) 0) + 1) else (ints (rowsUp p (Int.toNat x8)) 0) x)))] [.e gg10, .p (Int.toNat ((((rowsUp p (Int.toNat x8)).length : Nat) : Int) - 1) < ((rowsUp p (Int.toNat x8)).length)), .p ((0 : Int) ≤ ((((rowsUp p (Int.toNat x8)).length : Nat) : Int) - 1) ∧ (((((rowsUp p (Int.toNat x8)).length : Nat) : Int) - 1) : Int) < (((rowsUp p (Int.toNat x8)).length : Nat) : Int)), .p (fit .i64 ((List.getD (rowsUp p (Int.toNat x8)) (Int.toNat ((((rowsUp p (Int.toNat x8)).length : Nat) : Int) - 1)) 0) + 1)), .p ((((ints (rowsUp p (Int.toNat x8)) 0) (Int.toNat ((((rowsUp p (Int.toNat x8)).length : Nat) : Int) - 1))) : Value) = vi (List.getD (rowsUp p (Int.toNat x8)) (Int.toNat ((((rowsUp p (Int.toNat x8)).length : Nat) : Int) - 1)) 0)), .e gg10, .p (Int.toNat ((((rowsUp p (Int.toNat x8)).length : Nat) : Int) - 1) < ((rowsUp p (Int.toNat x8)).length)), .p ((0 : Int) ≤ ((((rowsUp p (Int.toNat x8)).length : Nat) : Int) - 1) ∧ (((((rowsUp p (Int.toNat x8)).length : Nat) : Int) - 1) : Int) < (((rowsUp p (Int.toNat x8)).length : Nat) : Int)), .p (fit .i64 ((((rowsUp p (Int.toNat x8)).length : Nat) : Int) - 1))] ⟨(by omega), (by omega), fit_i64 (by omega), (ints_abs (rowsUp p (Int.toNat x8)) (Int.toNat ((((rowsUp p (Int.toNat x8)).length : Nat) : Int) - 1))), (by omega), (by omega), fit_i64 (by omega), trivial⟩ fun ac wd hS => ?_
    replace hS := hS.to (hS.mem.tellR 1 (b := gg10) (e := 3) (m := ((rowsUp p (Int.toNat x8)).length)) (tot := cp11) (f := (fun x => if x = Int.toNat ((((rowsUp p (Int.toNat x8)).length : Nat) : Int) - 1) then vi ((List.getD (rowsUp p (Int.toNat x8)) (Int.toNat ((((rowsUp p (Int.toNat x8)).length : Nat) : Int) - 1)) 0) + 1) else (ints (rowsUp p (Int.toNat x8)) 0) x)) (ints (List.set (rowsUp p (Int.toNat x8)) (Int.toNat ((((rowsUp p (Int.toNat x8)).length : Nat) : Int) - 1)) ((List.getD (rowsUp p (Int.toNat x8)) (Int.toNat ((((rowsUp p (Int.toNat x8)).length : Nat) : Int) - 1)) 0) + 1)) 0) (fun o ho => ints_setv (rowsUp p (Int.toNat x8)) (Int.toNat ((((rowsUp p (Int.toNat x8)).length : Nat) : Int) - 1)) ((List.getD (rowsUp p (Int.toNat x8)) (Int.toNat ((((rowsUp p (Int.toNat x8)).length : Nat) : Int) - 1)) 0) + 1) (by omega) o ho))
    refine pop_block ?_
    refine pop_then ?_
    refine hS.regC [20, 0] [0, 3, 6, 7] fun _ => seg [(8, vi (x8 + 1))] [(0, none), (1, none)] [.p (fit .i64 (x8 + 1))] ⟨fit_i64 (by omega), trivial⟩ fun ac wd hS => ?_
    have hu_ : (rowsUp p (Int.toNat (x8 + 1))) = (List.set (rowsUp p (Int.toNat x8)) (Int.toNat ((((rowsUp p (Int.toNat x8)).length : Nat) : Int) - 1)) ((List.getD (rowsUp p (Int.toNat x8)) (Int.toNat ((((rowsUp p (Int.toNat x8)).length : Nat) : Int) - 1)) 0) + 1)) := by first | (rw [up_new i0.1 (by first | assumption | (simp_all; done)) hsn]; rfl) | (rw [up_more i0.1 (by first | assumption | (simp_all; done)) hsf.1 hsf.2]; rfl)
    replace hS := hS.to (hS.mem.tellR 1 (b := gg10) (e := 3) (m := ((rowsUp p (Int.toNat x8)).length)) (tot := cp11) (f := (ints (List.set (rowsUp p (Int.toNat x8)) (Int.toNat ((((rowsUp p (Int.toNat x8)).length : Nat) : Int) - 1)) ((List.getD (rowsUp p (Int.toNat x8)) (Int.toNat ((((rowsUp p (Int.toNat x8)).length : Nat) : Int) - 1)) 0) + 1)) 0)) (ints (rowsUp p (Int.toNat (x8 + 1))) 0) (fun o _ => by rw [hu_]))
    replace hS := hS.to (WS.grBack1 (e := 3) (m := (rowsUp p (Int.toNat x8)).length) (tot := cp11) (g := gg10) (f := (ints (rowsUp p (Int.toNat (x8 + 1))) 0)) hS.mem 1 [0] (by omega) (by omega) (H' := [(g, .fn o (o + n) (boolsV p o))]))
    have hm_ : (rowsUp p (Int.toNat x8)).length = (rowsUp p (Int.toNat (x8 + 1))).length := by rw [hu_, List.length_set]
    replace hS := hS.to (hS.mem.grRe (v := .slice (some ⟨gg10, 0, none⟩) ((rowsUp p (Int.toNat x8)).length) cp11) (v' := .slice (some ⟨gg10, 0, none⟩) ((rowsUp p (Int.toNat (x8 + 1))).length) cp11) (m := ((rowsUp p (Int.toNat x8)).length)) (m' := (rowsUp p (Int.toNat (x8 + 1))).length) (f := (ints (rowsUp p (Int.toNat (x8 + 1))) 0)) 0 (by rw [hm_]) hm_)
    replace hS := hS.fix 3 (.slice (some ⟨gg10, 0, none⟩) ((rowsUp p (Int.toNat (x8 + 1))).length) cp11) (show (.slice (some ⟨gg10, 0, none⟩) ((rowsUp p (Int.toNat x8)).length) cp11 : Value) = .slice (some ⟨gg10, 0, none⟩) ((rowsUp p (Int.toNat (x8 + 1))).length) cp11 by rw [hm_])
    exact pop_then (hS.next ((x8 + 1), (some ⟨gg10, 0, none⟩), cp11, one gg10) ⟨(by first | omega | assumption | (simp; done) | (simp; omega)), trivial⟩ (by dsimp only; omega))
 ·
  refine wp_exit ?_
  refine pop_then_exit ?_
  refine pop_then_exit ?_
  refine pop_block_hit ?_
  refine pop_then ?_
  refine hS.regS [0, 0] [] fun _ => seg [(2, .slice xo ((rowsUp p (Int.toNat x8)).length) xc)] [] [] trivial fun ac wd hS => ?_
  refine wp_ret ?_
  have hx8 : Int.toNat x8 = n := by omega
  replace hS := hS.to (hS.mem.grTell (m := ((rowsUp p (Int.toNat x8)).length)) (f := (ints (rowsUp p (Int.toNat x8)) 0)) 0 (ints (rowsUp p n) 0) (fun o _ => by rw [hx8]))
  have hm_ : (rowsUp p (Int.toNat x8)).length = ((rowsUp p n)).length := by rw [hx8]
  replace hS := hS.to (hS.mem.grRe (v := .slice xo ((rowsUp p (Int.toNat x8)).length) xc) (v' := .slice xo (((rowsUp p n)).length) xc) (m := ((rowsUp p (Int.toNat x8)).length)) (m' := ((rowsUp p n)).length) (f := (ints (rowsUp p n) 0)) 0 (by rw [hm_]) hm_)
  replace hS := hS.fix 2 (.slice xo (((rowsUp p n)).length) xc) (show (.slice xo ((rowsUp p (Int.toNat x8)).length) xc : Value) = .slice xo (((rowsUp p n)).length) xc by rw [hm_])
  obtain ⟨gg12, cp13, hv_, hcp_, hO⟩ := WS.grOpen (e := 3) (sz := 1) (m := (((rowsUp p n)).length)) (f := (ints (rowsUp p n) 0)) hS.mem (by omega)
  simp only [Nat.mul_one] at hO
  obtain ⟨rfl, rfl⟩ : some (⟨gg12, 0, none⟩ : Addr) = xo ∧ cp13 = xc := by cases hv_; exact ⟨rfl, rfl⟩
  clear hv_
  replace hS := hS.to hO
  clear hO
  refine St.retC 0 hS (sc gg12 0 (((rowsUp p n)).length) cp13) [] trivial fun hw => ?_
  refine ⟨gg12, cp13, retd ?_, ((hw.getm 0 gg12 (.row 3 (((rowsUp p n)).length) cp13 (ints (rowsUp p n) 0))).resolve_right (fun h => h)), (HE.fn_hi (by omega) (HE.of_row (hw.get 0 gg12 (.row 3 (((rowsUp p n)).length) cp13 (ints (rowsUp p n) 0))) (fun _ _ => rfl))), hw.fr0⟩
  all_goals (first | rfl | omega)

set_option maxRecDepth 100000 in
set_option maxHeartbeats 1000000 in
theorem ref02_Rows_none (g : Nat) (o : Nat) (c : Nat) (n : Nat) (p : Nat → Bool) (w : World) (hh0 : HE.holds w g (.fn o (o + n) (boolsV p o))) (hn : n ≤ 1048576) (hne : rowsUp p n = []) :
    Calls Tryd.prog 98 #[sc g o n c] w fun e w' => e = .returned (vnil) ∧ Fr w w' no no := by
 have hz0 : (rowsUp p n).length = 0 := by rw [hne]; rfl
 refine enter (args := [sc g o n c]) (D := no) (A := []) Tryd.func98 rfl 39 rfl [(g, .fn o (o + n) (boolsV p o))] (WS.startL ⟨⟨rfl, hh0⟩, trivial⟩) fun ac hS => ?_
 refine hS.regS [0] [0] fun _ => seg [] [(0, none)] [] trivial fun ac wd hS => ?_
 refine hS.regS [0] [0] fun _ => seg [(3, vnil)] [(0, none)] [] trivial fun ac wd hS => ?_
 refine wp_seq ?_
 replace hS := hS.to (hS.mem.grNew 3 1 (ints (rowsUp p (Int.toNat 0)) 0))
 refine hS.regS [0, 0, 0] [0, 3] fun _ => seg [(6, sc g o n c), (7, vi ((n : Nat) : Int)), (8, vi 0)] [(0, none)] [] trivial fun ac wd hS => ?_
 refine wp_block ?_
 refine St.loopC (σ := Int × Option Addr × Nat × (Nat → Prop)) (fun (x : Int × Option Addr × Nat × (Nat → Prop)) => match x with | (x8, xo, xc, Fx) => ⟨[(0, [], sc g o n c), (3, [], .slice xo ((rowsUp p (Int.toNat x8)).length) xc), (6, [], sc g o n c), (7, [], vi ((n : Nat) : Int)), (8, [], vi x8)], [(g, .fn o (o + n) (boolsV p o))], [grR 3 1 (.slice xo (rowsUp p (Int.toNat x8)).length xc) Fx ((rowsUp p (Int.toNat x8)).length, (ints (rowsUp p (Int.toNat x8)) 0))], (0 ≤ x8 ∧ x8 ≤ (n : Int)) ∧ True, n - Int.toNat x8⟩) (0, none, 0, no) ⟨(by omega), trivial⟩ hS ?_
 clear hS
 rintro ⟨x8, xo, xc, Fx⟩ ⟨i0, -⟩ ac wd hS
 replace i0 : 0 ≤ x8 ∧ x8 ≤ (n : Int) := i0
 refine hS.regS [0] [0, 3, 6, 7, 8] fun _ => seg [(9, vb (decide ((x8 : Int) < ((n : Nat) : Int))))] [(0, none)] [] trivial fun ac wd hS => ?_
 refine wp_seq ?_
 refine hS.condC (decide ((x8 : Int) < ((n : Nat) : Int))) (fun hb1o hb1 => ?_) (fun hb1o hb1 => ?_)
 ·
  refine wp_skip ?_
  refine pop_then ?_
  refine wp_seq ?_
  refine wp_block ?_
  refine hS.regS [0, 20, fx 0 (vb (p (Int.toNat x8))), 0, 0] [0, 3, 6, 7, 8] fun _ => seg [(4, vi x8), (5, vb (p (Int.toNat x8)))] [(0, none)] [.p ((((boolsV p o) (o + Int.toNat x8 * 1)) : Value) = vb (p (Int.toNat x8))), .e g, .p (o ≤ o + Int.toNat x8 * 1 ∧ o + Int.toNat x8 * 1 < (o + n)), .p ((0 : Int) ≤ x8 ∧ (x8 : Int) < ((n : Nat) : Int))] ⟨(boolsV_rel p o (Int.toNat x8)), (by omega), (by omega), trivial⟩ fun ac wd hS => ?_
  refine wp_seq ?_
  refine hS.regS [0, 0] [0, 3, 4, 6, 7, 8] fun _ => seg [(14, vb (!(p (Int.toNat x8))))] [(0, none)] [] trivial fun ac wd hS => ?_
  refine hS.condC (!(p (Int.toNat x8))) (fun hb2o hb2 => ?_) (fun hb2o hb2 => ?_)
  ·
   refine wp_exit ?_
   refine pop_then_exit ?_
   refine pop_block_hit ?_
   refine pop_then ?_
   refine hS.regC [20, 0] [0, 3, 6, 7] fun _ => seg [(8, vi (x8 + 1))] [(0, none)] [.p (fit .i64 (x8 + 1))] ⟨fit_i64 (by omega), trivial⟩ fun ac wd hS => ?_
   have hu_ : (rowsUp p (Int.toNat (x8 + 1))) = (rowsUp p (Int.toNat x8)) := up_skip i0.1 (by first | assumption | (simp_all; done))
   replace hS := hS.to (hS.mem.grTell (m := ((rowsUp p (Int.toNat x8)).length)) (f := (ints (rowsUp p (Int.toNat x8)) 0)) 0 (ints (rowsUp p (Int.toNat (x8 + 1))) 0) (fun o _ => by rw [hu_]))
   have hm_ : (rowsUp p (Int.toNat x8)).length = ((rowsUp p (Int.toNat (x8 + 1)))).length := by rw [hu_]
   replace hS := hS.to (hS.mem.grRe (v := .slice xo ((rowsUp p (Int.toNat x8)).length) xc) (v' := .slice xo (((rowsUp p (Int.toNat (x8 + 1)))).length) xc) (m := ((rowsUp p (Int.toNat x8)).length)) (m' := ((rowsUp p (Int.toNat (x8 + 1)))).length) (f := (ints (rowsUp p (Int.toNat (x8 + 1))) 0)) 0 (by rw [hm_]) hm_)
   replace hS := hS.fix 3 (.slice xo (((rowsUp p (Int.toNat (x8 + 1)))).length) xc) (show (.slice xo ((rowsUp p (Int.toNat x8)).length) xc : Value) = .slice xo (((rowsUp p (Int.toNat (x8 + 1)))).length) xc by rw [hm_])
   exact pop_then (hS.next ((x8 + 1), xo, xc, Fx) ⟨(by first | omega | assumption | (simp; done) | (simp; omega)), trivial⟩ (by dsimp only; omega))
  ·
   refine wp_skip ?_
   refine pop_then ?_
   refine wp_seq ?_
   refine hS.regS [0, 0, 0, 3, 3, 23, 23, fx 3 (vb (p (Int.toNat (x8 - 1)))), 3, 80] [0, 3, 4, 6, 7, 8] fun _ => seg [(24, vb (((x8 : Int) == 0) || (!(p (Int.toNat (x8 - 1))))))] [(0, none)] [.p (((((x8 : Int) == 0) = false) ∧ True) → AllP [(((boolsV p o) (o + Int.toNat (x8 - 1) * 1)) : Value) = vb (p (Int.toNat (x8 - 1))), (g : Nat) = g, o ≤ o + Int.toNat (x8 - 1) * 1 ∧ o + Int.toNat (x8 - 1) * 1 < (o + n)]), .p (((((x8 : Int) == 0) = false) ∧ True) → AllP [(0 : Int) ≤ (x8 - 1) ∧ ((x8 - 1) : Int) < ((n : Nat) : Int)]), .p (((((x8 : Int) == 0) = false) ∧ True) → AllP [fit .i64 (x8 - 1)])] ⟨(fun ⟨hc0, _⟩ => by replace hc0 := nrm hc0; exact ⟨(boolsV_rel p o (Int.toNat (x8 - 1))), rfl, (by omega), trivial⟩), (fun ⟨hc0, _⟩ => by replace hc0 := nrm hc0; exact ⟨(by omega), trivial⟩), (fun ⟨hc0, _⟩ => by replace hc0 := nrm hc0; exact ⟨fit_i64 (by omega), trivial⟩), trivial⟩ fun ac wd hS => ?_
   refine hS.condC (((x8 : Int) == 0) || (!(p (Int.toNat (x8 - 1))))) (fun hb3o hb3 => ?_) (fun hb3o hb3 => ?_)
   ·
    have hsn : x8 = 0 ∨ p (Int.toNat (x8 - 1)) = false := by have h9_ := hb3o; rw [Bool.or_eq_true] at h9_; rcases h9_ with q | q; exact .inl (eq_of_beq q); exact .inr (by simpa only [Bool.not_eq_true'] using q)
    refine wp_region_lit ?_
    refine hS.opsC 3 [0, 0, 0] [0, 3, 6, 7, 8] fun ν9 => seg [(25, .slice xo ((rowsUp p (Int.toNat x8)).length) xc), (27, sc (ν9 0) 0 2 2)] [(0, none), (1, some ((ν9 0), .cells [vi x8, vi 0] 3))] [] trivial fun ac wd hS => ?_
    obtain ⟨i_, hi_, hz_, hs_, hb_⟩ := info_get (P := Tryd.prog) (e := 3) (z := vi 0) (s := 1) (b := 8) (by kernel_rfl)
    refine Runs1.list ?_
    refine St.appVK (k := 2) (m := ((rowsUp p (Int.toNat x8)).length)) (f := (ints (rowsUp p (Int.toNat x8)) 0)) (news := [vi x8, vi 0]) (bx := (ν9 0)) (cx := 2) (Tx := 3) 0 hS (.tmp 25) (.tmp 27) 34 rfl rfl (by decide) Tryd.underlying34 hi_ hz_ hs_ (by omega) rfl (by decide) 1 rfl rfl (by (have h9_ := up_len (p := p) i0.1 (show x8 ≤ 1048576 by omega); omega)) fun ac wd v2_ F6 hB7 hS => ?_
    obtain ⟨xo4, xc5, rfl⟩ := hB7.slice
    replace hS := hS.to (hS.mem.grTell (m := (((rowsUp p (Int.toNat x8)).length) + 2)) (f := (appF (ints (rowsUp p (Int.toNat x8)) 0) (((rowsUp p (Int.toNat x8)).length) * 1) [vi x8, vi 0])) 0 (ints ((rowsUp p (Int.toNat x8)) ++ [x8, 0]) 0) (ints_app2 (rowsUp p (Int.toNat x8)) x8 0))
    have hm_ : ((rowsUp p (Int.toNat x8)).length) + 2 = (((rowsUp p (Int.toNat x8)) ++ [x8, 0])).length := by simp
    replace hS := hS.to (hS.mem.grRe (v := .slice xo4 (((rowsUp p (Int.toNat x8)).length) + 2) xc5) (v' := .slice xo4 ((((rowsUp p (Int.toNat x8)) ++ [x8, 0])).length) xc5) (m := (((rowsUp p (Int.toNat x8)).length) + 2)) (m' := (((rowsUp p (Int.toNat x8)) ++ [x8, 0])).length) (f := (ints ((rowsUp p (Int.toNat x8)) ++ [x8, 0]) 0)) 0 (by rw [hm_]) hm_)
    replace hS := hS.fix 28 (.slice xo4 ((((rowsUp p (Int.toNat x8)) ++ [x8, 0])).length) xc5) (show (.slice xo4 (((rowsUp p (Int.toNat x8)).length) + 2) xc5 : Value) = .slice xo4 ((((rowsUp p (Int.toNat x8)) ++ [x8, 0])).length) xc5 by rw [hm_])
    refine hS.opsC 1 [0] [0, 6, 7, 8] fun _ => seg [(3, .slice xo4 ((((rowsUp p (Int.toNat x8)) ++ [x8, 0])).length) xc5)] [(0, none)] [] trivial fun ac wd hS => ?_
    refine list_nil ?_
    refine pop_then ?_
    have hpl : 0 < (((rowsUp p (Int.toNat x8)) ++ [x8, 0])).length := by first | (simp; done) | exact up_pos i0.1 hsf.1 hsf.2
    have hll : (((rowsUp p (Int.toNat x8)) ++ [x8, 0])).length ≤ 2097154 := by have h9_ := up_len (p := p) i0.1 (show x8 ≤ 1048576 by omega); first | omega | (rw [List.length_append]; simp; omega)
    have hbl := fun i_ => (show 0 ≤ List.getD ((rowsUp p (Int.toNat x8)) ++ [x8, 0]) i_ 0 ∧ List.getD ((rowsUp p (Int.toNat x8)) ++ [x8, 0]) i_ 0 ≤ 1048576 from by first | exact up_bd i0.1 (by omega) i_ | exact up_bd2 i0.1 (by omega) i_)
    have hb1 := hbl (Int.toNat (((((rowsUp p (Int.toNat x8)) ++ [x8, 0]).length : Nat) : Int) - 1))
    obtain ⟨gg8, cp9, hv_, hcp_, hO⟩ := WS.grOpen (e := 3) (sz := 1) (m := ((((rowsUp p (Int.toNat x8)) ++ [x8, 0])).length)) (f := (ints ((rowsUp p (Int.toNat x8)) ++ [x8, 0]) 0)) hS.mem (by omega)
    simp only [Nat.mul_one] at hO
    obtain ⟨rfl, rfl⟩ : some (⟨gg8, 0, none⟩ : Addr) = xo4 ∧ cp9 = xc5 := by cases hv_; exact ⟨rfl, rfl⟩
    clear hv_
    replace hS := hS.to hO
    clear hO
    refine hS.regC [0, 0, 0, 20, 10, fx 100 (vi (List.getD ((rowsUp p (Int.toNat x8)) ++ [x8, 0]) (Int.toNat ((((((rowsUp p (Int.toNat x8)) ++ [x8, 0])).length : Nat) : Int) - 1)) 0)), 20, 10, 100] [0, 3, 6, 7, 8] fun _ => seg [] [(0, none), (1, some (gg8, .row 3 ((((rowsUp p (Int.toNat x8)) ++ [x8, 0])).length) cp9 (fun x => if x = Int.toNat ((((((rowsUp p (Int.toNat x8)) ++ [x8, 0])).length : Nat) : Int) - 1) then vi ((List.getD ((rowsUp p (Int.toNat x8)) ++ [x8, 0]) (Int.toNat ((((((rowsUp p (Int.toNat x8)) ++ [x8, 0])).length : Nat) : Int) - 1)) 0) + 1) else (ints ((rowsUp p (Int.toNat x8)) ++ [x8, 0]) 0) x)))] [.e gg8, .p (Int.toNat ((((((rowsUp p (Int.toNat x8)) ++ [x8, 0])).length : Nat) : Int) - 1) < ((((rowsUp p (Int.toNat x8)) ++ [x8, 0])).length)), .p ((0 : Int) ≤ ((((((rowsUp p (Int.toNat x8)) ++ [x8, 0])).length : Nat) : Int) - 1) ∧ (((((((rowsUp p (Int.toNat x8)) ++ [x8, 0])).length : Nat) : Int) - 1) : Int) < (((((rowsUp p (Int.toNat x8)) ++ [x8, 0])).length : Nat) : Int)), .p (fit .i64 ((List.getD ((rowsUp p (Int.toNat x8)) ++ [x8, 0]) (Int.toNat ((((((rowsUp p (Int.toNat x8)) ++ [x8, 0])).length : Nat) : Int) - 1)) 0) + 1)), .p ((((ints ((rowsUp p (Int.toNat x8)) ++ [x8, 0]) 0) (Int.toNat ((((((rowsUp p (Int.toNat x8)) ++ [x8, 0])).length : Nat) : Int) - 1))) : Value) = vi (List.getD ((rowsUp p (Int.toNat x8)) ++ [x8, 0]) (Int.toNat ((((((rowsUp p (Int.toNat x8)) ++ [x8, 0])).length : Nat) : Int) - 1)) 0)), .e gg8, .p (Int.toNat ((((((rowsUp p (Int.toNat x8)) ++ [x8, 0])).length : Nat) : Int) - 1) < ((((rowsUp p (Int.toNat x8)) ++ [x8, 0])).length)), .p ((0 : Int) ≤ ((((((rowsUp p (Int.toNat x8)) ++ [x8, 0])).length : Nat) : Int) - 1) ∧ (((((((rowsUp p (Int.toNat x8)) ++ [x8, 0])).length : Nat) : Int) - 1) : Int) < (((((rowsUp p (Int.toNat x8)) ++ [x8, 0])).length : Nat) : Int)), .p (fit .i64 ((((((rowsUp p (Int.toNat x8)) ++ [x8, 0])).length : Nat) : Int) - 1))] ⟨(by omega), (by omega), fit_i64 (by omega), (ints_abs ((rowsUp p (Int.toNat x8)) ++ [x8, 0]) (Int.toNat ((((((rowsUp p (Int.toNat x8)) ++ [x8, 0])).length : Nat) : Int) - 1))), (by omega), (by omega), fit_i64 (by omega), trivial⟩ fun ac wd hS => ?_
    replace hS := hS.to (hS.mem.tellR 1 (b := gg8) (e := 3) (m := ((((rowsUp p (Int.toNat x8)) ++ [x8, 0])).length)) (tot := cp9) (f := (fun x => if x = Int.toNat ((((((rowsUp p (Int.toNat x8)) ++ [x8, 0])).length : Nat) : Int) - 1) then vi ((List.getD ((rowsUp p (Int.toNat x8)) ++ [x8, 0]) (Int.toNat ((((((rowsUp p (Int.toNat x8)) ++ [x8, 0])).length : Nat) : Int) - 1)) 0) + 1) else (ints ((rowsUp p (Int.toNat x8)) ++ [x8, 0]) 0) x)) (ints (List.set ((rowsUp p (Int.toNat x8)) ++ [x8, 0]) (Int.toNat ((((((rowsUp p (Int.toNat x8)) ++ [x8, 0])).length : Nat) : Int) - 1)) ((List.getD ((rowsUp p (Int.toNat x8)) ++ [x8, 0]) (Int.toNat ((((((rowsUp p (Int.toNat x8)) ++ [x8, 0])).length : Nat) : Int) - 1)) 0) + 1)) 0) (fun o ho => ints_setv ((rowsUp p (Int.toNat x8)) ++ [x8, 0]) (Int.toNat ((((((rowsUp p (Int.toNat x8)) ++ [x8, 0])).length : Nat) : Int) - 1)) ((List.getD ((rowsUp p (Int.toNat x8)) ++ [x8, 0]) (Int.toNat ((((((rowsUp p (Int.toNat x8)) ++ [x8, 0])).length : Nat) : Int) - 1)) 0) + 1) (by omega) o ho))
    refine pop_block ?_
    refine pop_then ?_
    refine hS.regC [20, 0] [0, 3, 6, 7] fun _ => seg [(8, vi (x8 + 1))] [(0, none), (1, none)] [.p (fit .i64 (x8 + 1))] ⟨fit_i64 (by omega), trivial⟩ fun ac wd hS => ?_
    have hu_ : (rowsUp p (Int.toNat (x8 + 1))) = (List.set ((rowsUp p (Int.toNat x8)) ++ [x8, 0]) (Int.toNat ((((((rowsUp p (Int.toNat x8)) ++ [x8, 0])).length : Nat) : Int) - 1)) ((List.getD ((rowsUp p (Int.toNat x8)) ++ [x8, 0]) (Int.toNat ((((((rowsUp p (Int.toNat x8)) ++ [x8, 0])).length : Nat) : Int) - 1)) 0) + 1)) := by first | (rw [up_new i0.1 (by first | assumption | (simp_all; done)) hsn]; rfl) | (rw [up_more i0.1 (by first | assumption | (simp_all; done)) hsf.1 hsf.2]; rfl)
    replace hS := hS.to (hS.mem.tellR 1 (b := gg8) (e := 3) (m := ((((rowsUp p (Int.toNat x8)) ++ [x8, 0])).length)) (tot := cp9) (f := (ints (List.set ((rowsUp p (Int.toNat x8)) ++ [x8, 0]) (Int.toNat ((((((rowsUp p (Int.toNat x8)) ++ [x8, 0])).length : Nat) : Int) - 1)) ((List.getD ((rowsUp p (Int.toNat x8)) ++ [x8, 0]) (Int.toNat ((((((rowsUp p (Int.toNat x8)) ++ [x8, 0])).length : Nat) : Int) - 1)) 0) + 1)) 0)) (ints (rowsUp p (Int.toNat (x8 + 1))) 0) (fun o _ => by rw [hu_]))
    replace hS := hS.to (WS.grBack1 (e := 3) (m := (((rowsUp p (Int.toNat x8)) ++ [x8, 0])).length) (tot := cp9) (g := gg8) (f := (ints (rowsUp p (Int.toNat (x8 + 1))) 0)) hS.mem 1 [0] (by omega) (by omega) (H' := [(g, .fn o (o + n) (boolsV p o))]))
    have hm_ : (((rowsUp p (Int.toNat x8)) ++ [x8, 0])).length = (rowsUp p (Int.toNat (x8 + 1))).length := by rw [hu_, List.length_set]
    replace hS := hS.to (hS.mem.grRe (v := .slice (some ⟨gg8, 0, none⟩) ((((rowsUp p (Int.toNat x8)) ++ [x8, 0])).length) cp9) (v' := .slice (some ⟨gg8, 0, none⟩) ((rowsUp p (Int.toNat (x8 + 1))).length) cp9) (m := ((((rowsUp p (Int.toNat x8)) ++ [x8, 0])).length)) (m' := (rowsUp p (Int.toNat (x8 + 1))).length) (f := (ints (rowsUp p (Int.toNat (x8 + 1))) 0)) 0 (by rw [hm_]) hm_)
    replace hS := hS.fix 3 (.slice (some ⟨gg8, 0, none⟩) ((rowsUp p (Int.toNat (x8 + 1))).length) cp9) (show (.slice (some ⟨gg8, 0, none⟩) ((((rowsUp p (Int.toNat x8)) ++ [x8, 0])).length) cp9 : Value) = .slice (some ⟨gg8, 0, none⟩) ((rowsUp p (Int.toNat (x8 + 1))).length) cp9 by rw [hm_])
    exact pop_then (hS.next ((x8 + 1), (some ⟨gg8, 0, none⟩), cp9, one gg8) ⟨(by first | omega | assumption | (simp; done) | (simp; omega)), trivial⟩ (by dsimp only; omega))
   ·
    have hsf : ¬ x8 = 0 ∧ p (Int.toNat (x8 - 1)) = true := by have h9_ := hb3o; rw [Bool.or_eq_false_iff] at h9_; exact ⟨fun q => by rw [q] at h9_; exact absurd h9_.1 (by decide), by have h8_ := h9_.2; (cases hq : p (Int.toNat (x8 - 1)); rw [hq] at h8_; exact absurd h8_ (by decide); rfl)⟩
    refine wp_skip ?_
    refine pop_then ?_
    have hpl : 0 < ((rowsUp p (Int.toNat x8))).length := by first | (simp; done) | exact up_pos i0.1 hsf.1 hsf.2
    have hll : ((rowsUp p (Int.toNat x8))).length ≤ 2097154 := by have h9_ := up_len (p := p) i0.1 (show x8 ≤ 1048576 by omega); first | omega | (rw [List.length_append]; simp; omega)
    have hbl := fun i_ => (show 0 ≤ List.getD (rowsUp p (Int.toNat x8)) i_ 0 ∧ List.getD (rowsUp p (Int.toNat x8)) i_ 0 ≤ 1048576 from by first | exact up_bd i0.1 (by omega) i_ | exact up_bd2 i0.1 (by omega) i_)
    have hb1 := hbl (Int.toNat ((((rowsUp p (Int.toNat x8)).length : Nat) : Int) - 1))
    obtain ⟨gg10, cp11, hv_, hcp_, hO⟩ := WS.grOpen (e := 3) (sz := 1) (m := ((rowsUp p (Int.toNat x8)).length)) (f := (ints (rowsUp p (Int.toNat x8)) 0)) hS.mem (by omega)
    simp only [Nat.mul_one] at hO
    obtain ⟨rfl, rfl⟩ : some (⟨gg10, 0, none⟩ : Addr) = xo ∧ cp11 = xc := by cases hv_; exact ⟨rfl, rfl⟩
    clear hv_
    replace hS := hS.to hO
    clear hO
    refine hS.regC [0, 0, 0, 20, 10, fx 100 (vi (List.getD (rowsUp p (Int.toNat x8)) (Int.toNat ((((rowsUp p (Int.toNat x8)).length : Nat) : Int) - 1)) 0)), 20, 10, 100] [0, 3, 6, 7, 8] fun _ => seg [] [(0, none), (1, some (gg10, .row 3 ((rowsUp p (Int.toNat x8)).length) cp11 (fun x => if x = Int.toNat ((((rowsUp p (Int.toNat x8)).length : Nat) : Int) - 1) then vi ((List.getD (rowsUp p (Int.toNat x8)) (Int.toNat ((((rowsUp p (Int.toNat x8)).length : Nat) : Int) - 1)) 0) + 1) else (ints (rowsUp p (Int.toNat x8)) 0) x)))] [.e gg10, .p (Int.toNat ((((rowsUp p (Int.toNat x8)).length : Nat) : Int) - 1) < ((rowsUp p (Int.toNat x8)).length)), .p ((0 : Int) ≤ ((((rowsUp p (Int.toNat x8)).length : Nat) : Int) - 1) ∧ (((((rowsUp p (Int.toNat x8)).length : Nat) : Int) - 1) : Int) < (((rowsUp p (Int.toNat x8)).length : Nat) : Int)), .p (fit .i64 ((List.getD (rowsUp p (Int.toNat x8)) (Int.toNat ((((rowsUp p (Int.toNat x8)).length : Nat) : Int) - 1)) 0) + 1)), .p ((((ints (rowsUp p (Int.toNat x8)) 0) (Int.toNat ((((rowsUp p (Int.toNat x8)).length : Nat) : Int) - 1))) : Value) = vi (List.getD (rowsUp p (Int.toNat x8)) (Int.toNat ((((rowsUp p (Int.toNat x8)).length : Nat) : Int) - 1)) 0)), .e gg10, .p (Int.toNat ((((rowsUp p (Int.toNat x8)).length : Nat) : Int) - 1) < ((rowsUp p (Int.toNat x8)).length)), .p ((0 : Int) ≤ ((((rowsUp p (Int.toNat x8)).length : Nat) : Int) - 1) ∧ (((((rowsUp p (Int.toNat x8)).length : Nat) : Int) - 1) : Int) < (((rowsUp p (Int.toNat x8)).length : Nat) : Int)), .p (fit .i64 ((((rowsUp p (Int.toNat x8)).length : Nat) : Int) - 1))] ⟨(by omega), (by omega), fit_i64 (by omega), (ints_abs (rowsUp p (Int.toNat x8)) (Int.toNat ((((rowsUp p (Int.toNat x8)).length : Nat) : Int) - 1))), (by omega), (by omega), fit_i64 (by omega), trivial⟩ fun ac wd hS => ?_
    replace hS := hS.to (hS.mem.tellR 1 (b := gg10) (e := 3) (m := ((rowsUp p (Int.toNat x8)).length)) (tot := cp11) (f := (fun x => if x = Int.toNat ((((rowsUp p (Int.toNat x8)).length : Nat) : Int) - 1) then vi ((List.getD (rowsUp p (Int.toNat x8)) (Int.toNat ((((rowsUp p (Int.toNat x8)).length : Nat) : Int) - 1)) 0) + 1) else (ints (rowsUp p (Int.toNat x8)) 0) x)) (ints (List.set (rowsUp p (Int.toNat x8)) (Int.toNat ((((rowsUp p (Int.toNat x8)).length : Nat) : Int) - 1)) ((List.getD (rowsUp p (Int.toNat x8)) (Int.toNat ((((rowsUp p (Int.toNat x8)).length : Nat) : Int) - 1)) 0) + 1)) 0) (fun o ho => ints_setv (rowsUp p (Int.toNat x8)) (Int.toNat ((((rowsUp p (Int.toNat x8)).length : Nat) : Int) - 1)) ((List.getD (rowsUp p (Int.toNat x8)) (Int.toNat ((((rowsUp p (Int.toNat x8)).length : Nat) : Int) - 1)) 0) + 1) (by omega) o ho))
    refine pop_block ?_
    refine pop_then ?_
    refine hS.regC [20, 0] [0, 3, 6, 7] fun _ => seg [(8, vi (x8 + 1))] [(0, none), (1, none)] [.p (fit .i64 (x8 + 1))] ⟨fit_i64 (by omega), trivial⟩ fun ac wd hS => ?_
    have hu_ : (rowsUp p (Int.toNat (x8 + 1))) = (List.set (rowsUp p (Int.toNat x8)) (Int.toNat ((((rowsUp p (Int.toNat x8)).length : Nat) : Int) - 1)) ((List.getD (rowsUp p (Int.toNat x8)) (Int.toNat ((((rowsUp p (Int.toNat x8)).length : Nat) : Int) - 1)) 0) + 1)) := by first | (rw [up_new i0.1 (by first | assumption | (simp_all; done)) hsn]; rfl) | (rw [up_more i0.1 (by first | assumption | (simp_all; done)) hsf.1 hsf.2]; rfl)
    replace hS := hS.to (hS.mem.tellR 1 (b := gg10) (e := 3) (m := ((rowsUp p (Int.toNat x8)).length)) (tot := cp11) (f := (ints (List.set (rowsUp p (Int.toNat x8)) (Int.toNat ((((rowsUp p (Int.toNat x8)).length : Nat) : Int) - 1)) ((List.getD (rowsUp p (Int.toNat x8)) (Int.toNat ((((rowsUp p (Int.toNat x8)).length : Nat) : Int) - 1)) 0) + 1)) 0)) (ints (rowsUp p (Int.toNat (x8 + 1))) 0) (fun o _ => by rw [hu_]))
    replace hS := hS.to (WS.grBack1 (e := 3) (m := (rowsUp p (Int.toNat x8)).length) (tot := cp11) (g := gg10) (f := (ints (rowsUp p (Int.toNat (x8 + 1))) 0)) hS.mem 1 [0] (by omega) (by omega) (H' := [(g, .fn o (o + n) (boolsV p o))]))
    have hm_ : (rowsUp p (Int.toNat x8)).length = (rowsUp p (Int.toNat (x8 + 1))).length := by rw [hu_, List.length_set]
    replace hS := hS.to (hS.mem.grRe (v := .slice (some ⟨gg10, 0, none⟩) ((rowsUp p (Int.toNat x8)).length) cp11) (v' := .slice (some ⟨gg10, 0, none⟩) ((rowsUp p (Int.toNat (x8 + 1))).length) cp11) (m := ((rowsUp p (Int.toNat x8)).length)) (m' := (rowsUp p (Int.toNat (x8 + 1))).length) (f := (ints (rowsUp p (Int.toNat (x8 + 1))) 0)) 0 (by rw [hm_]) hm_)
    replace hS := hS.fix 3 (.slice (some ⟨gg10, 0, none⟩) ((rowsUp p (Int.toNat (x8 + 1))).length) cp11) (show (.slice (some ⟨gg10, 0, none⟩) ((rowsUp p (Int.toNat x8)).length) cp11 : Value) = .slice (some ⟨gg10, 0, none⟩) ((rowsUp p (Int.toNat (x8 + 1))).length) cp11 by rw [hm_])
    exact pop_then (hS.next ((x8 + 1), (some ⟨gg10, 0, none⟩), cp11, one gg10) ⟨(by first | omega | assumption | (simp; done) | (simp; omega)), trivial⟩ (by dsimp only; omega))
 ·
  refine wp_exit ?_
  refine pop_then_exit ?_
  refine pop_then_exit ?_
  refine pop_block_hit ?_
  refine pop_then ?_
  refine hS.regS [0, 0] [] fun _ => seg [(2, .slice xo ((rowsUp p (Int.toNat x8)).length) xc)] [] [] trivial fun ac wd hS => ?_
  refine wp_ret ?_
  have hx8 : Int.toNat x8 = n := by omega
  replace hS := hS.to (hS.mem.grTell (m := ((rowsUp p (Int.toNat x8)).length)) (f := (ints (rowsUp p (Int.toNat x8)) 0)) 0 (ints (rowsUp p n) 0) (fun o _ => by rw [hx8]))
  have hm_ : (rowsUp p (Int.toNat x8)).length = ((rowsUp p n)).length := by rw [hx8]
  replace hS := hS.to (hS.mem.grRe (v := .slice xo ((rowsUp p (Int.toNat x8)).length) xc) (v' := .slice xo (((rowsUp p n)).length) xc) (m := ((rowsUp p (Int.toNat x8)).length)) (m' := ((rowsUp p n)).length) (f := (ints (rowsUp p n) 0)) 0 (by rw [hm_]) hm_)
  replace hS := hS.fix 2 (.slice xo (((rowsUp p n)).length) xc) (show (.slice xo ((rowsUp p (Int.toNat x8)).length) xc : Value) = .slice xo (((rowsUp p n)).length) xc by rw [hm_])
  have hm_ : ((rowsUp p n)).length = 0 := by omega
  replace hS := hS.to (hS.mem.grRe (v := .slice xo (((rowsUp p n)).length) xc) (v' := .slice xo 0 xc) (m := (((rowsUp p n)).length)) (m' := 0) (f := (ints (rowsUp p n) 0)) 0 (by rw [hm_]) hm_)
  replace hS := hS.fix 2 (.slice xo 0 xc) (show (.slice xo (((rowsUp p n)).length) xc : Value) = .slice xo 0 xc by rw [hm_])
  obtain ⟨hv_, hO⟩ := WS.grNil (e := 3) (sz := 1) (m := 0) (f := (ints (rowsUp p n) 0)) hS.mem (by first | omega | rfl)
  obtain ⟨rfl, rfl⟩ : (none : Option Addr) = xo ∧ 0 = xc := by cases hv_; exact ⟨rfl, rfl⟩
  clear hv_
  replace hS := hS.to hO
  clear hO
  refine St.retC 0 hS (vnil) [] trivial fun hw => ?_
  refine ⟨retd rfl, hw.fr0⟩

end Go.Proofs.YtnbkafnikpbmbaaDoor.K
