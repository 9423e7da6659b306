/-
  Walks, printed by w2.py.
-/
import Derived.Test.YtindbpffbjhfaaaDoorHb
import Derived.Test.YtindbpffbjhfaaaDoorVa
import Derived.Test.YtindbpffbjhfaaaDoorQz
import Derived.Test.YtindbpffbjhfaaaDoorSh
import Derived.Test.YtindbpffbjhfaaaDoorSf
import Derived.Test.YtindbpffbjhfaaaDoorProg
namespace Go.Proofs.YtindbpffbjhfaaaDoor.K
set_option linter.unusedVariables false
set_option linter.unusedSimpArgs false

set_option maxRecDepth 100000 in
set_option maxHeartbeats 1000000 in
theorem r06_Pages (a : Int) (w : World) (ha : 0 ≤ a ∧ a ≤ 10) :
    Calls Tryd.prog 171 #[vi a] w fun e w' => e = .returned (vi (pgsN a)) ∧ Fr w w' no no := by
 refine enter (args := [vi a]) (D := no) (A := []) Tryd.func171 rfl 13 rfl [] (WS.startL trivial) fun ac hS => ?_
 refine hS.regS [0] [0] fun _ => seg [] [] [] trivial fun ac wd hS => ?_
 refine hS.regS [0] [0] fun _ => seg [(3, vi 1)] [] [] trivial fun ac wd hS => ?_
 refine wp_seq ?_
 refine hS.regS [0] [0, 3] fun _ => seg [(4, vi 0)] [] [] trivial fun ac wd hS => ?_
 refine wp_block ?_
 refine St.loopC (σ := Int × Int) (fun (x : Int × Int) => match x with | (x3, x4) => ⟨[(0, [], vi a), (3, [], vi x3), (4, [], vi x4)], [], [], (0 ≤ x4 ∧ x4 ≤ a) ∧ (x3 = pgsN x4) ∧ True, Int.toNat (a - x4)⟩) (1, 0) ⟨(by first | omega | rfl), (by first | omega | rfl), trivial⟩ hS ?_
 clear hS
 rintro ⟨x3, x4⟩ ⟨i0, i1, -⟩ ac wd hS
 replace i0 : 0 ≤ x4 ∧ x4 ≤ a := i0
 replace i1 : x3 = pgsN x4 := i1
 have hpb := pgsN_bd (a := x4) (by omega)
 rw [← i1] at hpb
 refine wp_seq ?_
 refine hS.regS [0, 0, 0] [0, 3, 4] fun _ => seg [(7, vb (decide ((x4 : Int) < a)))] [] [] trivial fun ac wd hS => ?_
 refine hS.condC (decide ((x4 : Int) < a)) (fun hb1o hb1 => ?_) (fun hb1o hb1 => ?_)
 ·
  refine wp_skip ?_
  refine pop_then ?_
  refine wp_seq ?_
  refine wp_block ?_
  refine hS.regC [0, 20, 0] [0, 4] fun _ => seg [(3, vi (2 * x3))] [] [.p (fit .i64 (2 * x3))] ⟨fit_i64 (by omega), trivial⟩ fun ac wd hS => ?_
  refine pop_block ?_
  refine pop_then ?_
  refine hS.regC [0, 20, 0] [0, 3] fun _ => seg [(4, vi (x4 + 1))] [] [.p (fit .i64 (x4 + 1))] ⟨fit_i64 (by omega), trivial⟩ fun ac wd hS => ?_
  exact pop_then (hS.next ((2 * x3), (x4 + 1)) ⟨(by first | omega | assumption | (simp; done) | (simp; omega)), (by exact pgsN_step i1 i0.1), trivial⟩ (by dsimp only; omega))
 ·
  refine wp_exit ?_
  refine pop_then_exit ?_
  refine pop_then_exit ?_
  refine pop_block_hit ?_
  refine pop_then ?_
  refine hS.regS [0, 0] [] fun _ => seg [(2, vi x3)] [] [] trivial fun ac wd hS => ?_
  refine wp_ret ?_
  refine St.retC 0 hS (vi x3) [] trivial fun hw => ?_
  refine ⟨retd (vint ?_), hw.fr0⟩
  all_goals (exact i1.trans (congrArg pgsN (by omega)))

set_option maxRecDepth 100000 in
set_option maxHeartbeats 1000000 in
theorem r06_Get (ao1 : Option Addr) (c1 : Nat) (g1 : Nat) (o1 : Nat) (t : List (Int × Int)) (i : Int) (w : World) (hh0 : HE.holds w g1 (.fn o1 (o1 + t.length * 2) (tgV (gtD t) o1))) (hv1 : (t.length = 0 ∨ ao1 = some ⟨g1, o1, none⟩)) (ht : t.length ≤ 4294967200) :
    Calls Tryd.prog 173 #[.slice ao1 t.length c1, vi i] w fun e w' => e = .returned (.tuple #[.agg #[v8 (((rgV t i)).1), v8 (((rgV t i)).2)], vi (rgE t i)]) ∧ Fr w w' no no := by
 refine enter (args := [.slice ao1 t.length c1, vi i]) (D := no) (A := []) Tryd.func173 rfl 19 rfl [(g1, .fn o1 (o1 + t.length * 2) (tgV (gtD t) o1))] (WS.startL ⟨⟨rfl, hh0⟩, trivial⟩) fun ac hS => ?_
 refine hS.regS [0, 0] [0, 1] fun ν1 => seg [(4, pt (ν1 0) 0)] [(0, none), (1, some ((ν1 0), .cells [v8 0, v8 0] 271))] [] trivial fun ac wd hS => ?_
 refine wp_seq ?_
 refine hS.regS [0, 0, 0, 3, 3, 3, 3, 80] [0, 1, 4] fun _ => seg [(13, vb ((decide ((i : Int) < 0)) || (decide ((((t.length : Nat) : Int) : Int) ≤ i))))] [(0, none), (1, none)] [] trivial fun ac wd hS => ?_
 refine hS.condC ((decide ((i : Int) < 0)) || (decide ((((t.length : Nat) : Int) : Int) ≤ i))) (fun hb1o hb1 => ?_) (fun hb1o hb1 => ?_)
 ·
  obtain ⟨hD, hE⟩ := rg_1 (q := t) (i := i) (by omega)
  refine hS.regS [0, 100, 0] [4] fun _ => seg [(5, vi 3)] [(1, none)] [.e (ν1 0), .e (ν1 0)] trivial fun ac wd hS => ?_
  refine wp_ret ?_
  refine pop_then_ret ?_
  refine St.retC 0 hS (.tuple #[.agg #[v8 0, v8 0], vi 3]) [.e (ν1 0), .e (ν1 0)] trivial fun hw => ?_
  refine ⟨retd (tuple2 (agg2 (vint ?_) (vint ?_)) (vint ?_)), hw.fr0⟩
  all_goals (first | exact hE | (rw [← hD]; done))
 ·
  obtain ⟨hD, hE⟩ := rg_2 (q := t) (i := i) (by omega)
  refine wp_skip ?_
  refine pop_then ?_
  obtain rfl : ao1 = some ⟨g1, o1, none⟩ := Or.resolve_left hv1 (by omega)
  refine hS.regS [0, 0, 20, fx 0 (.agg #[v8 (((gtD t) (Int.toNat i)).1), v8 (((gtD t) (Int.toNat i)).2)]), 100, 0] [4] fun _ => seg [(5, vi 0)] [(1, some ((ν1 0), .cells [v8 (((gtD t) (Int.toNat i)).1), v8 (((gtD t) (Int.toNat i)).2)] 271))] [.e (ν1 0), .e (ν1 0), .p ((.agg #[((tgV (gtD t) o1) (o1 + Int.toNat i * 2)), ((tgV (gtD t) o1) (o1 + Int.toNat i * 2 + 1))] : Value) = .agg #[v8 (((gtD t) (Int.toNat i)).1), v8 (((gtD t) (Int.toNat i)).2)]), .e g1, .p (o1 ≤ o1 + Int.toNat i * 2 + 1 ∧ o1 + Int.toNat i * 2 + 1 < (o1 + t.length * 2)), .e g1, .p (o1 ≤ o1 + Int.toNat i * 2 ∧ o1 + Int.toNat i * 2 < (o1 + t.length * 2)), .p ((0 : Int) ≤ i ∧ (i : Int) < ((t.length : Nat) : Int))] ⟨(agg2 (tgV_0 (gtD t) o1 (Int.toNat i)) (tgV_1 (gtD t) o1 (Int.toNat i))), (by omega), (by omega), (by omega), trivial⟩ fun ac wd hS => ?_
  refine wp_ret ?_
  refine St.retC 0 hS (.tuple #[.agg #[v8 (((gtD t) (Int.toNat i)).1), v8 (((gtD t) (Int.toNat i)).2)], vi 0]) [.e (ν1 0), .e (ν1 0)] trivial fun hw => ?_
  refine ⟨retd (tuple2 (agg2 (vint ?_) (vint ?_)) (vint ?_)), hw.fr0⟩
  all_goals (first | exact hE | (rw [← hD]; done))

set_option maxRecDepth 100000 in
set_option maxHeartbeats 1000000 in
theorem r06_Run (ao1 : Option Addr) (c1 : Nat) (g1 : Nat) (o1 : Nat) (t : List (Int × Int)) (i : Int) (w : World) (hh0 : HE.holds w g1 (.fn o1 (o1 + t.length * 2) (tgV (gtD t) o1))) (hv1 : (t.length = 0 ∨ ao1 = some ⟨g1, o1, none⟩)) (ht : t.length ≤ 4294967200) (hrg : ∀ j, j < t.length → 0 ≤ (gtD t j).1 ∧ (gtD t j).1 ≤ 3 ∧ 0 ≤ (gtD t j).2 ∧ (gtD t j).2 ≤ 10) :
    Calls Tryd.prog 174 #[.slice ao1 t.length c1, vi i] w fun e w' => e = .returned (.tuple #[vi (rrV t i), .agg #[v8 (((rrT t i)).1), v8 (((rrT t i)).2)], vi (rrE t i)]) ∧ Fr w w' no no := by
 refine enter (args := [.slice ao1 t.length c1, vi i]) (D := no) (A := []) Tryd.func174 rfl 49 rfl [(g1, .fn o1 (o1 + t.length * 2) (tgV (gtD t) o1))] (WS.startL ⟨⟨rfl, hh0⟩, trivial⟩) fun ac hS => ?_
 refine hS.regS [0, 0, 0] [0, 1] fun ν1 => seg [(5, pt (ν1 0) 0)] [(0, none), (1, some ((ν1 0), .cells [v8 0, v8 0] 271))] [] trivial fun ac wd hS => ?_
 refine wp_region_seq ?_
 refine hS.opsC 2 [0, 0] [0, 1, 5] fun _ => seg [(12, .slice ao1 t.length c1), (13, vi i)] [(0, none), (1, none)] [] trivial fun ac wd hS => ?_
 refine hS.call0 173 #[.slice ao1 t.length c1, vi i] 14 (r06_Get ao1 c1 g1 o1 t i _ (hS.mem.get 0 g1 (.fn o1 (o1 + t.length * 2) (tgV (gtD t) o1))) hv1 (by first | assumption | omega | (simp_all; done) | (simp_all; omega))) fun ac wd hS => ?_
 refine hS.opsC 6 [0, 0, 0, 0, 200, 0] [0, 1, 5] fun ν3 => seg [(8, vi (rgE t i))] [(0, none), (1, none)] [.e (ν3 0), .e (ν3 0)] trivial fun ac wd hS => ?_
 refine list_nil_seq ?_
 refine wp_seq ?_
 refine hS.regS [0, 0] [0, 1, 5, 8] fun _ => seg [(18, vb (((rgE t i) : Int) != 0))] [(0, none), (1, none)] [] trivial fun ac wd hS => ?_
 refine hS.condC (((rgE t i) : Int) != 0) (fun hb1o hb1 => ?_) (fun hb1o hb1 => ?_)
 ·
  have hR := rr_1 (q := t) (i := i) hb1
  refine hS.regS [0, 0, 0, 100, 0] [5] fun _ => seg [(4, vi 0), (6, vi (rgE t i))] [(1, none)] [.e (ν1 0), .e (ν1 0)] trivial fun ac wd hS => ?_
  refine wp_ret ?_
  refine pop_then_ret ?_
  refine St.retC 0 hS (.tuple #[vi 0, .agg #[v8 0, v8 0], vi (rgE t i)]) [.e (ν1 0), .e (ν1 0)] trivial fun hw => ?_
  refine ⟨retd (tuple3 (vint ?_) (agg2 (vint ?_) (vint ?_)) (vint ?_)), hw.fr0⟩
  all_goals (first | exact hR.1 | exact hR.2.2 | (rw [← hR.2.1]; done))
 ·
  have hte : rgE t i = 0 := hb1
  obtain ⟨hi0, hi1⟩ := rgE_in hte
  refine wp_skip ?_
  refine pop_then ?_
  refine wp_seq ?_
  refine hS.regS [0, 0] [0, 1, 5] fun _ => seg [(9, vi i)] [(0, none), (1, none)] [] trivial fun ac wd hS => ?_
  refine wp_block ?_
  refine St.loopC (σ := Int) (fun (x9 : Int) => ⟨[(0, [], .slice ao1 t.length c1), (1, [], vi i), (5, [], pt (ν1 0) 0), (9, [], vi x9)], [(g1, .fn o1 (o1 + t.length * 2) (tgV (gtD t) o1)), ((ν1 0), .cells [v8 0, v8 0] 271)], [], (-1 ≤ x9 ∧ x9 ≤ i) ∧ (rrI t i = rrI t x9) ∧ True, Int.toNat (x9 + 1)⟩) i ⟨(by first | omega | rfl), (by first | omega | rfl), trivial⟩ hS ?_
  clear hS
  rintro x9 ⟨i0, i1, -⟩ ac wd hS
  replace i0 : -1 ≤ x9 ∧ x9 ≤ i := i0
  replace i1 : rrI t i = rrI t x9 := i1
  refine wp_seq ?_
  refine hS.regS [0, 0] [0, 1, 5, 9] fun _ => seg [(23, vb (decide ((0 : Int) ≤ x9)))] [(0, none), (1, none)] [] trivial fun ac wd hS => ?_
  refine hS.condC (decide ((0 : Int) ≤ x9)) (fun hb2o hb2 => ?_) (fun hb2o hb2 => ?_)
  ·
   have hr9 := hrg _ (show Int.toNat x9 < t.length by omega)
   refine wp_skip ?_
   refine pop_then ?_
   refine wp_seq ?_
   refine wp_block ?_
   obtain rfl : ao1 = some ⟨g1, o1, none⟩ := Or.resolve_left hv1 (by omega)
   refine hS.regS [0, 0, 20, fx 0 (.agg #[v8 (((gtD t) (Int.toNat x9)).1), v8 (((gtD t) (Int.toNat x9)).2)]), 0, 200] [0, 1, 5, 9] fun ν8 => seg [(10, pt (ν8 0) 0)] [(0, none), (1, none), (2, some ((ν8 0), .cells [v8 (((gtD t) (Int.toNat x9)).1), v8 (((gtD t) (Int.toNat x9)).2)] 271))] [.e (ν8 0), .e (ν8 0), .p ((.agg #[((tgV (gtD t) o1) (o1 + Int.toNat x9 * 2)), ((tgV (gtD t) o1) (o1 + Int.toNat x9 * 2 + 1))] : Value) = .agg #[v8 (((gtD t) (Int.toNat x9)).1), v8 (((gtD t) (Int.toNat x9)).2)]), .e g1, .p (o1 ≤ o1 + Int.toNat x9 * 2 + 1 ∧ o1 + Int.toNat x9 * 2 + 1 < (o1 + t.length * 2)), .e g1, .p (o1 ≤ o1 + Int.toNat x9 * 2 ∧ o1 + Int.toNat x9 * 2 < (o1 + t.length * 2)), .p ((0 : Int) ≤ x9 ∧ (x9 : Int) < ((t.length : Nat) : Int))] ⟨(agg2 (tgV_0 (gtD t) o1 (Int.toNat x9)) (tgV_1 (gtD t) o1 (Int.toNat x9))), (by omega), (by omega), (by omega), trivial⟩ fun ac wd hS => ?_
   refine wp_seq ?_
   refine hS.regS [0, 200, 0] [0, 1, 5, 9, 10] fun _ => seg [(32, vb ((((gtD t) (Int.toNat x9)).1 : Int) == 1))] [(0, none), (1, none), (2, none)] [.e (ν8 0)] trivial fun ac wd hS => ?_
   refine hS.condC ((((gtD t) (Int.toNat x9)).1 : Int) == 1) (fun hb3o hb3 => ?_) (fun hb3o hb3 => ?_)
   ·
    have hn1 : (gtD t (Int.toNat x9)).1 = 1 := hb3
    refine wp_exit ?_
    refine pop_then_exit ?_
    refine pop_block_hit ?_
    refine pop_then ?_
    refine hS.regC [0, 20, 0] [0, 1, 5] fun _ => seg [(9, vi (x9 - 1))] [(0, none), (1, none)] [.p (fit .i64 (x9 - 1))] ⟨fit_i64 (by omega), trivial⟩ fun ac wd hS => ?_
    exact pop_then (hS.next (x9 - 1) ⟨(by first | omega | assumption | (simp; done) | (simp; omega)), (by exact rrI_yes i1 (by omega) hn1), trivial⟩ (by dsimp only; omega))
   ·
    have hx := rrI_no i1 (by omega) hb3
    refine wp_skip ?_
    refine pop_then ?_
    refine wp_seq ?_
    refine wp_region_seq ?_
    refine hS.opsC 4 [0, 200, 0, 0] [1, 5, 9, 10] fun _ => seg [(36, vb (decide ((2 : Int) ≤ (((gtD t) (Int.toNat x9)).1))))] [(1, none), (2, none)] [.e (ν8 0)] trivial fun ac wd hS => ?_
    rcases Bool.eq_false_or_eq_true (decide ((2 : Int) ≤ (((gtD t) (Int.toNat x9)).1))) with hg4o | hg4o
    ·
     have hg4 := nrm hg4o
     have hs2 := hg4o
     replace hS := hS.fix 36 (vb true) (congrArg Value.bool hg4o)
     refine hS.opsC 6 [1, 1, 21, 1, 101, 21] [5, 9, 10, 36] fun _ => seg [(39, vi (i - x9)), (42, vi (((gtD t) (Int.toNat x9)).2))] [(0, none), (1, none)] [.t true, .p (fit .i64 (((gtD t) (Int.toNat x9)).2)), .t true, .e (ν8 0), .t true, .t true, .p (fit .i64 (i - x9)), .t true, .t true] ⟨fit_i64 (by omega), fit_i64 (by omega), trivial⟩ fun ac wd hS => ?_
     refine hS.callG true 171 #[vi (((gtD t) (Int.toNat x9)).2)] (r06_Pages (((gtD t) (Int.toNat x9)).2) _  (by first | assumption | omega | (simp_all; done) | (simp_all; omega))) ?_
     rintro _ wd ⟨rfl, hF⟩
     refine ⟨vi (pgsN (((gtD t) (Int.toNat x9)).2)), rfl, ?_⟩
     replace hS := (hS.to (hS.mem.keep0 hF)).put (d := 43) (v := vi (pgsN (((gtD t) (Int.toNat x9)).2))) (by decide)
     clear hF
     refine hS.opsC 2 [1, 70] [5, 9, 10] fun _ => seg [(45, vb (decide (((i - x9) : Int) < (pgsN (((gtD t) (Int.toNat x9)).2)))))] [(0, none), (1, none)] [.t true, .t true] trivial fun ac wd hS => ?_
     refine list_nil_seq ?_
     refine hS.condC (decide (((i - x9) : Int) < (pgsN (((gtD t) (Int.toNat x9)).2)))) (fun hb5o hb5 => ?_) (fun hb5o hb5 => ?_)
     ·
      have hR := rr_4 hte hx (by omega) (by simp only [hs2, hb5o]; rfl)
      refine St.ordBeginS [(0, 1), (1, 1), (2, 1), (3, 0), (4, 1)] [((ν8 0), .cells [v8 (((gtD t) (Int.toNat x9)).1), v8 (((gtD t) (Int.toNat x9)).2)] 271)] [1] hS fun wd hS => ?_
      have hap := hS.mem.pairs (Hf := [((ν8 0), .cells [v8 (((gtD t) (Int.toNat x9)).1), v8 (((gtD t) (Int.toNat x9)).2)] 271)]) (l := [1])
      refine St.ordF [0, 0, 0] [0, 1, 2] [5] (rest := [(3, 0), (4, 1)]) hS hap <| segF [(4, vi x9), (47, .agg #[v8 (((gtD t) (Int.toNat x9)).1), v8 (((gtD t) (Int.toNat x9)).2)])] [.e (ν8 0), .e (ν8 0)] trivial fun ac hS => ?_
      refine St.ord1 3 [0] [4, 5] [1] hS rfl fun _ => seg [] [(0, some ((ν1 0), .cells [v8 (((gtD t) (Int.toNat x9)).1), v8 (((gtD t) (Int.toNat x9)).2)] 271)), (1, none)] [.e (ν1 0), .e (ν1 0)] trivial ⟨by as_aux_lemma => kernel_rfl, fun ac wd hS => ?_⟩
      refine St.ordF [0] [4] [4, 5] (rest := []) hS hap <| segF [(6, vi 0)] [] trivial fun ac hS => ?_
      refine ord_nil ?_
      refine wp_ret ?_
      refine pop_then_ret ?_
      refine pop_block_ret ?_
      refine pop_then_ret ?_
      refine pop_then_ret ?_
      refine pop_block_ret ?_
      refine pop_then_ret ?_
      refine St.retC 0 hS (.tuple #[vi x9, .agg #[v8 (((gtD t) (Int.toNat x9)).1), v8 (((gtD t) (Int.toNat x9)).2)], vi 0]) [.e (ν1 0), .e (ν1 0)] trivial fun hw => ?_
      refine ⟨retd (tuple3 (vint ?_) (agg2 (vint ?_) (vint ?_)) (vint ?_)), hw.fr0⟩
      all_goals (first | exact hR.1 | exact hR.2.2 | (rw [← hR.2.1]; done))
     ·
      have hR := rr_3 hte hx (by omega) (by simp only [hs2, hb5o]; rfl)
      refine wp_skip ?_
      refine pop_then ?_
      refine wp_exit ?_
      refine pop_block_miss rfl ?_
      refine pop_then_exit ?_
      refine pop_then_exit ?_
      refine pop_block_hit ?_
      refine pop_then ?_
      refine hS.regS [0, 0, 0, 0] [5] fun _ => seg [(4, vi 0), (6, vi 8)] [(0, none)] [.e (ν1 0), .e (ν1 0)] trivial fun ac wd hS => ?_
      refine wp_ret ?_
      refine St.retC 0 hS (.tuple #[vi 0, .agg #[v8 0, v8 0], vi 8]) [.e (ν1 0), .e (ν1 0)] trivial fun hw => ?_
      refine ⟨retd (tuple3 (vint ?_) (agg2 (vint ?_) (vint ?_)) (vint ?_)), hw.fr0⟩
      all_goals (first | exact hR.1 | exact hR.2.2 | (rw [← hR.2.1]; done))
    ·
     have hg4 := nrm hg4o
     have hR := rr_3 hte hx (by omega) (by simp only [hg4o]; rfl)
     replace hS := hS.fix 36 (vb false) (congrArg Value.bool hg4o)
     refine hS.opsC 9 [2, 2, 2, 2, 2, 2, 2, 2, 60] [5, 9, 10] fun _ => seg [(45, vb false)] [(0, none), (1, none)] [.t false, .t false, .t false, .t false, .t false, .t false, .t false, .t false, .t false] trivial fun ac wd hS => ?_
     refine list_nil_seq ?_
     refine hS.condF ?_
     refine wp_skip ?_
     refine pop_then ?_
     refine wp_exit ?_
     refine pop_block_miss rfl ?_
     refine pop_then_exit ?_
     refine pop_then_exit ?_
     refine pop_block_hit ?_
     refine pop_then ?_
     refine hS.regS [0, 0, 0, 0] [5] fun _ => seg [(4, vi 0), (6, vi 8)] [(0, none)] [.e (ν1 0), .e (ν1 0)] trivial fun ac wd hS => ?_
     refine wp_ret ?_
     refine St.retC 0 hS (.tuple #[vi 0, .agg #[v8 0, v8 0], vi 8]) [.e (ν1 0), .e (ν1 0)] trivial fun hw => ?_
     refine ⟨retd (tuple3 (vint ?_) (agg2 (vint ?_) (vint ?_)) (vint ?_)), hw.fr0⟩
     all_goals (first | exact hR.1 | exact hR.2.2 | (rw [← hR.2.1]; done))
  ·
   have hR := rr_2 hte i1 (by omega)
   refine wp_exit ?_
   refine pop_then_exit ?_
   refine pop_then_exit ?_
   refine pop_block_hit ?_
   refine pop_then ?_
   refine hS.regS [0, 0, 100, 0] [5] fun _ => seg [(4, vi 0), (6, vi 8)] [(1, none)] [.e (ν1 0), .e (ν1 0)] trivial fun ac wd hS => ?_
   refine wp_ret ?_
   refine St.retC 0 hS (.tuple #[vi 0, .agg #[v8 0, v8 0], vi 8]) [.e (ν1 0), .e (ν1 0)] trivial fun hw => ?_
   refine ⟨retd (tuple3 (vint ?_) (agg2 (vint ?_) (vint ?_)) (vint ?_)), hw.fr0⟩
   all_goals (first | exact hR.1 | exact hR.2.2 | (rw [← hR.2.1]; done))

set_option maxRecDepth 100000 in
set_option maxHeartbeats 1000000 in
theorem r06_Lay (ao1 : Option Addr) (c1 : Nat) (g1 : Nat) (o1 : Nat) (t : List (Int × Int)) (i : Int) (a : Int) (s_ : Int) (w : World) (hh0 : HE.holds w g1 (.fn o1 (o1 + t.length * 2) (tgV (gtD t) o1))) (hv1 : (t.length = 0 ∨ ao1 = some ⟨g1, o1, none⟩)) (ht : t.length ≤ 4294967200) (hs : 0 ≤ s_ ∧ s_ ≤ 255) :
    Calls Tryd.prog 96 #[.slice ao1 t.length c1, vi i, vi a, v8 s_] w fun e w' => ∃ (ao2 : Option Addr) (c2 : Nat) (g2 : Nat) (o2 : Nat), e = .returned (.tuple #[.slice ao2 ((rlQ t i a s_).length) c2, vi (rlE t i a s_)]) ∧ ((rlQ t i a s_).length = 0 ∨ ao2 = some ⟨g2, o2, none⟩) ∧ (g2 = g1 ∨ w.heap.size ≤ g2) ∧ HE.holds w' g2 (.fn o2 (o2 + (rlQ t i a s_).length * 2) (tgV (gtD (rlQ t i a s_)) o2)) ∧ Fr w w' no no := by
 refine enter (args := [.slice ao1 t.length c1, vi i, vi a, v8 s_]) (D := no) (A := []) Tryd.func96 rfl 82 rfl [(g1, .fn o1 (o1 + t.length * 2) (tgV (gtD t) o1))] (WS.startL ⟨⟨rfl, hh0⟩, trivial⟩) fun ac hS => ?_
 refine hS.regS [0, 0] [0, 1, 2, 3] fun _ => seg [] [(0, none)] [] trivial fun ac wd hS => ?_
 refine wp_seq ?_
 refine hS.regS [0, 0, 0, 3, 3, 80, 0, 3, 3, 80, 0, 3, 3, 80] [0, 1, 2, 3] fun _ => seg [(26, vb ((((decide ((a : Int) < 0)) || (decide ((10 : Int) < a))) || ((s_ : Int) == 1)) || (decide ((3 : Int) < s_))))] [(0, none)] [] trivial fun ac wd hS => ?_
 refine hS.condC ((((decide ((a : Int) < 0)) || (decide ((10 : Int) < a))) || ((s_ : Int) == 1)) || (decide ((3 : Int) < s_))) (fun hb1o hb1 => ?_) (fun hb1o hb1 => ?_)
 ·
  have hbd : rlBad a s_ = true := hb1o
  obtain ⟨hD, hE⟩ := rl_1 (q := t) (i := i) hbd
  refine hS.regS [0, 0, 0] [] fun _ => seg [(8, .slice ao1 t.length c1), (9, vi 2)] [(0, none)] [] trivial fun ac wd hS => ?_
  refine wp_ret ?_
  refine pop_then_ret ?_
  refine St.retC 0 hS (.tuple #[.slice ao1 t.length c1, vi 2]) [] trivial fun hw => ?_
  refine ⟨ao1, c1, g1, o1, retd (tuple2 (slN ?_) (vint ?_)), (by first | exact hv1 | exact .inl hz_ | (rw [← hD]; exact hv1)), (by omega), (HE.fn_to (hw.get 0 g1 (.fn o1 (o1 + t.length * 2) (tgV (gtD t) o1))) ?_ ?_), hw.fr0⟩
  all_goals (first | (first | rfl | (simp; done) | (rw [← hD]; done) | (rw [rlQ_len]; omega) | (rw [← hD]; exact (layL_len _ _ _ _ _).symm) | exact hE | exact tgV_cg0 (fun k_ hk_ => by rw [← hD]; first | exact layE_0 i1 (by omega) hs0 k_ hk_ | exact layE_1 i1 (by omega) hs0 (by omega) (by omega) (by omega) k_ hk_) | (intro x_ _ _; rw [← hD])) | (intro x_ hx_; rfl) | (intro x_ hx_ hy_; rfl))
 ·
  have hbd : rlBad a s_ = false := hb1o
  obtain ⟨hy1, hy2, hy3, hy4⟩ := rlBad_in hbd
  have hpg := pgsN_bd hy2
  refine wp_skip ?_
  refine pop_then ?_
  refine wp_region_seq ?_
  refine hS.opsC 1 [0] [0, 1, 2, 3] fun _ => seg [(28, vi a)] [(0, none)] [] trivial fun ac wd hS => ?_
  refine hS.call0 171 #[vi a] 29 (r06_Pages a _  (by first | assumption | omega | (simp_all; done) | (simp_all; omega))) fun ac wd hS => ?_
  refine hS.opsC 1 [0] [0, 1, 2, 3] fun _ => seg [(10, vi (pgsN a))] [(0, none)] [] trivial fun ac wd hS => ?_
  refine list_nil_seq ?_
  refine wp_seq ?_
  refine hS.regS [0, 0, 0, 3, 3, 3, 3, 80, 0, 3, 3, 3, 3, 23, 3, 80] [0, 1, 2, 3, 10] fun _ => seg [(45, vb (((decide ((i : Int) < 0)) || (decide ((((t.length : Nat) : Int) : Int) < (pgsN a)))) || (decide (((((t.length : Nat) : Int) - (pgsN a)) : Int) < i))))] [(0, none)] [.p (((((decide ((i : Int) < 0)) || (decide ((((t.length : Nat) : Int) : Int) < (pgsN a)))) = false) ∧ True) → AllP [fit .i64 (((t.length : Nat) : Int) - (pgsN a))])] ⟨(fun ⟨hc0, _⟩ => by replace hc0 := nrm hc0; exact ⟨fit_i64 (by omega), trivial⟩), trivial⟩ fun ac wd hS => ?_
  refine hS.condC (((decide ((i : Int) < 0)) || (decide ((((t.length : Nat) : Int) : Int) < (pgsN a)))) || (decide (((((t.length : Nat) : Int) - (pgsN a)) : Int) < i))) (fun hb2o hb2 => ?_) (fun hb2o hb2 => ?_)
  ·
   obtain ⟨hD, hE⟩ := rl_2 (q := t) (i := i) hbd (by omega)
   refine hS.regS [0, 0, 0] [] fun _ => seg [(8, .slice ao1 t.length c1), (9, vi 3)] [(0, none)] [] trivial fun ac wd hS => ?_
   refine wp_ret ?_
   refine pop_then_ret ?_
   refine St.retC 0 hS (.tuple #[.slice ao1 t.length c1, vi 3]) [] trivial fun hw => ?_
   refine ⟨ao1, c1, g1, o1, retd (tuple2 (slN ?_) (vint ?_)), (by first | exact hv1 | exact .inl hz_ | (rw [← hD]; exact hv1)), (by omega), (HE.fn_to (hw.get 0 g1 (.fn o1 (o1 + t.length * 2) (tgV (gtD t) o1))) ?_ ?_), hw.fr0⟩
   all_goals (first | (first | rfl | (simp; done) | (rw [← hD]; done) | (rw [rlQ_len]; omega) | (rw [← hD]; exact (layL_len _ _ _ _ _).symm) | exact hE | exact tgV_cg0 (fun k_ hk_ => by rw [← hD]; first | exact layE_0 i1 (by omega) hs0 k_ hk_ | exact layE_1 i1 (by omega) hs0 (by omega) (by omega) (by omega) k_ hk_) | (intro x_ _ _; rw [← hD])) | (intro x_ hx_; rfl) | (intro x_ hx_ hy_; rfl))
  ·
   obtain ⟨hD, hE⟩ := rl_3 (q := t) (i := i) hbd (by omega)
   refine wp_skip ?_
   refine pop_then ?_
   refine wp_region_seq ?_
   refine hS.opsC 2 [0, 0] [0, 1, 2, 3, 10] fun _ => seg [(48, vi ((t.length : Nat) : Int))] [(0, none)] [] trivial fun ac wd hS => ?_
   refine Runs1.list ?_
   obtain ⟨i_, hi_, hz_, hs_, hb_⟩ := info_get (P := Tryd.prog) (e := 271) (z := .agg #[v8 0, v8 0]) (s := 2) (b := 2) (by kernel_rfl)
   refine St.makeV hS 187 (.tmp 48) (.tmp 48) rfl rfl (by decide) Tryd.underlying187 hi_ hz_ hs_ rfl (by omega) (by decide) (q := ((t.length : Nat) : Int)) (q2 := ((t.length : Nat) : Int)) rfl (by omega) (f := (tgV (fun _ => (0, 0)) 0)) (tgV_zero) fun ac wd gm3 hm4 hS => ?_
   rw [show Int.toNat ((t.length : Nat) : Int) = t.length by omega] at hS
   refine hS.opsC 1 [0] [0, 1, 2, 3, 10] fun _ => seg [(11, sc gm3 0 t.length t.length)] [(0, none), (1, none)] [] trivial fun ac wd hS => ?_
   refine list_nil_seq ?_
   refine wp_region_seq ?_
   refine hS.opsC 2 [0, 0] [1, 2, 3, 10, 11] fun _ => seg [(50, sc gm3 0 t.length t.length), (51, .slice ao1 t.length c1)] [(0, none), (1, none)] [] trivial fun ac wd hS => ?_
   refine Runs1.list ?_
   obtain ⟨i_, hi_, hz_, hs_, hb_⟩ := info_get (P := Tryd.prog) (e := 271) (z := .agg #[v8 0, v8 0]) (s := 2) (b := 2) (by kernel_rfl)
   refine St.copyW hS (.tmp 50) (.tmp 51) 187 187 rfl rfl (by decide) Tryd.underlying187 hi_ hs_ (b := gm3) (off := 0) (k := t.length) (cp := t.length) (m := (t.length * 2)) (tot := (t.length * 2)) (g := g1) (so := o1) (ks := t.length) (cps := c1) (ak := ao1) (e2 := 271) (f := (tgV (fun _ => (0, 0)) 0)) (F := (fun j => (tgV (gtD t) o1) (o1 + j))) 1 (by rw [Nat.min_self]; omega) hv1 (by rw [Nat.min_self]; exact CellsV.fn (hS.mem.get 0 g1 (.fn o1 (o1 + t.length * 2) (tgV (gtD t) o1))) (by omega) (by omega)) (fun q_ _ => tgV_one _ _ _) fun ac wd hS => ?_
   rw [Nat.min_self] at hS
   replace hS := hS.to (hS.mem.tellR 1 (b := gm3) (e := 271) (m := (t.length * 2)) (tot := (t.length * 2)) (f := (segV (tgV (fun _ => (0, 0)) 0) 0 (t.length * 2) (fun j => (tgV (gtD t) o1) (o1 + j)))) (tgV (gtD t) 0) (fun o_ ho_ => (tgV_copy (gtD t) (fun _ => (0, 0)) o1 t.length o_ ho_).symm))
   refine list_nil_seq ?_
   refine wp_seq ?_
   refine hS.regS [0] [1, 2, 3, 10, 11] fun _ => seg [(12, vi 0)] [(1, none)] [] trivial fun ac wd hS => ?_
   refine wp_block ?_
   refine St.loopC (σ := Int × (Nat → Int × Int)) (fun (x : Int × (Nat → Int × Int)) => match x with | (x12, eq) => ⟨[(1, [], vi i), (2, [], vi a), (3, [], v8 s_), (10, [], vi (pgsN a)), (11, [], sc gm3 0 t.length t.length), (12, [], vi x12)], [(gm3, .row 271 (t.length * 2) (t.length * 2) (tgV eq 0))], [], (0 ≤ x12 ∧ x12 ≤ pgsN a) ∧ (∀ j, j < t.length → eq j = gtD (layL t i x12 (rlO s_) (rlO s_)) j) ∧ True, Int.toNat (pgsN a - x12)⟩) (0, (gtD t)) ⟨(by omega), (by intro j_ hj_; rw [← layL_zero]), trivial⟩ hS ?_
   clear hS
   rintro ⟨x12, eq⟩ ⟨i0, i1, -⟩ ac wd hS
   replace i0 : 0 ≤ x12 ∧ x12 ≤ pgsN a := i0
   replace i1 : ∀ j, j < t.length → eq j = gtD (layL t i x12 (rlO s_) (rlO s_)) j := i1
   refine wp_seq ?_
   refine hS.regS [0, 0, 0] [1, 2, 3, 10, 11, 12] fun _ => seg [(55, vb (decide ((x12 : Int) < (pgsN a))))] [(0, none)] [] trivial fun ac wd hS => ?_
   refine hS.condC (decide ((x12 : Int) < (pgsN a))) (fun hb5o hb5 => ?_) (fun hb5o hb5 => ?_)
   ·
    refine wp_skip ?_
    refine pop_then ?_
    refine wp_seq ?_
    refine wp_block ?_
    refine hS.regS [0, 0, 0, 20, 0, 20, 0] [1, 2, 3, 10, 11, 12] fun _ => seg [] [(0, some (gm3, .row 271 (t.length * 2) (t.length * 2) (fun x => if x = 0 + Int.toNat (i + x12) * 2 + 1 then v8 0 else (fun x => if x = 0 + Int.toNat (i + x12) * 2 then v8 1 else (tgV eq 0) x) x)))] [.e gm3, .p (0 + Int.toNat (i + x12) * 2 + 1 < (t.length * 2)), .e gm3, .p (0 + Int.toNat (i + x12) * 2 < (t.length * 2)), .p ((0 : Int) ≤ (i + x12) ∧ ((i + x12) : Int) < ((t.length : Nat) : Int)), .p (fit .i64 (i + x12))] ⟨(by omega), (by omega), (by omega), fit_i64 (by omega), trivial⟩ fun ac wd hS => ?_
    replace hS := hS.to (hS.mem.tellR 0 (b := gm3) (e := 271) (m := (t.length * 2)) (tot := (t.length * 2)) (f := (fun x => if x = 0 + Int.toNat (i + x12) * 2 + 1 then v8 0 else (fun x => if x = 0 + Int.toNat (i + x12) * 2 then v8 1 else (tgV eq 0) x) x)) (tgV (updF eq (Int.toNat (i + x12)) (1, 0)) 0) (fun o ho => tgV_put eq (Int.toNat (i + x12)) 1 0 o))
    refine hS.regS [0, 0] [1, 2, 3, 10, 11, 12] fun _ => seg [(65, vb ((s_ : Int) == 0))] [(0, none)] [] trivial fun ac wd hS => ?_
    refine hS.condC ((s_ : Int) == 0) (fun hb6o hb6 => ?_) (fun hb6o hb6 => ?_)
    ·
     have hs0 : s_ = 0 := hb6
     refine hS.regC [0, 0, 0, 20, 0, 20, 0] [1, 2, 3, 10, 11, 12] fun _ => seg [] [(0, some (gm3, .row 271 (t.length * 2) (t.length * 2) (fun x => if x = 0 + Int.toNat (i + x12) * 2 + 1 then v8 0 else (fun x => if x = 0 + Int.toNat (i + x12) * 2 then v8 0 else (tgV (updF eq (Int.toNat (i + x12)) (1, 0)) 0) x) x)))] [.e gm3, .p (0 + Int.toNat (i + x12) * 2 + 1 < (t.length * 2)), .e gm3, .p (0 + Int.toNat (i + x12) * 2 < (t.length * 2)), .p ((0 : Int) ≤ (i + x12) ∧ ((i + x12) : Int) < ((t.length : Nat) : Int)), .p (fit .i64 (i + x12))] ⟨(by omega), (by omega), (by omega), fit_i64 (by omega), trivial⟩ fun ac wd hS => ?_
     replace hS := hS.to (hS.mem.tellR 0 (b := gm3) (e := 271) (m := (t.length * 2)) (tot := (t.length * 2)) (f := (fun x => if x = 0 + Int.toNat (i + x12) * 2 + 1 then v8 0 else (fun x => if x = 0 + Int.toNat (i + x12) * 2 then v8 0 else (tgV (updF eq (Int.toNat (i + x12)) (1, 0)) 0) x) x)) (tgV (updF (updF eq (Int.toNat (i + x12)) (1, 0)) (Int.toNat (i + x12)) (0, 0)) 0) (fun o ho => tgV_put (updF eq (Int.toNat (i + x12)) (1, 0)) (Int.toNat (i + x12)) 0 0 o))
     refine pop_block ?_
     refine pop_then ?_
     refine hS.regC [0, 20, 0] [1, 2, 3, 10, 11] fun _ => seg [(12, vi (x12 + 1))] [(0, none)] [.p (fit .i64 (x12 + 1))] ⟨fit_i64 (by omega), trivial⟩ fun ac wd hS => ?_
     exact pop_then (hS.next ((x12 + 1), (updF (updF eq (Int.toNat (i + x12)) (1, 0)) (Int.toNat (i + x12)) (0, 0))) ⟨(by omega), (by first | (rw [updF_two]; have hq_ := layE_step (o := rlO s_) i1 (by omega) i0.1 (by omega); rw [rlO_0 hs0] at hq_ ⊢; exact hq_) | (have hq_ := layE_step (o := rlO s_) i1 (by omega) i0.1 (by omega); rw [rlO_1 hs0] at hq_ ⊢; exact hq_)), trivial⟩ (by dsimp only; omega))
    ·
     have hs0 : s_ ≠ 0 := hb6
     refine wp_skip ?_
     refine pop_block ?_
     refine pop_then ?_
     refine hS.regC [0, 20, 0] [1, 2, 3, 10, 11] fun _ => seg [(12, vi (x12 + 1))] [(0, none)] [.p (fit .i64 (x12 + 1))] ⟨fit_i64 (by omega), trivial⟩ fun ac wd hS => ?_
     exact pop_then (hS.next ((x12 + 1), (updF eq (Int.toNat (i + x12)) (1, 0))) ⟨(by omega), (by first | (rw [updF_two]; have hq_ := layE_step (o := rlO s_) i1 (by omega) i0.1 (by omega); rw [rlO_0 hs0] at hq_ ⊢; exact hq_) | (have hq_ := layE_step (o := rlO s_) i1 (by omega) i0.1 (by omega); rw [rlO_1 hs0] at hq_ ⊢; exact hq_)), trivial⟩ (by dsimp only; omega))
   ·
    refine wp_exit ?_
    refine pop_then_exit ?_
    refine pop_then_exit ?_
    refine pop_block_hit ?_
    refine pop_then ?_
    refine wp_seq ?_
    refine hS.regS [0, 0] [1, 2, 3, 11] fun _ => seg [(73, vb ((s_ : Int) != 0))] [(0, none)] [] trivial fun ac wd hS => ?_
    refine hS.condC ((s_ : Int) != 0) (fun hb7o hb7 => ?_) (fun hb7o hb7 => ?_)
    ·
     have hs0 : s_ ≠ 0 := hb7
     refine hS.regC [0, 0, 0, 0, 20, 0, 20, 0] [11] fun _ => seg [] [(0, some (gm3, .row 271 (t.length * 2) (t.length * 2) (fun x => if x = 0 + Int.toNat i * 2 + 1 then v8 a else (fun x => if x = 0 + Int.toNat i * 2 then v8 s_ else (tgV eq 0) x) x)))] [.e gm3, .p (0 + Int.toNat i * 2 + 1 < (t.length * 2)), .e gm3, .p (0 + Int.toNat i * 2 < (t.length * 2)), .p ((0 : Int) ≤ i ∧ (i : Int) < ((t.length : Nat) : Int)), .p (fit .u8 a)] ⟨(by omega), (by omega), (by omega), fit_u8 (by omega), trivial⟩ fun ac wd hS => ?_
     replace hS := hS.to (hS.mem.tellR 0 (b := gm3) (e := 271) (m := (t.length * 2)) (tot := (t.length * 2)) (f := (fun x => if x = 0 + Int.toNat i * 2 + 1 then v8 a else (fun x => if x = 0 + Int.toNat i * 2 then v8 s_ else (tgV eq 0) x) x)) (tgV (updF eq (Int.toNat i) (s_, a)) 0) (fun o ho => tgV_put eq (Int.toNat i) s_ a o))
     refine pop_then ?_
     refine hS.regS [0, 0, 0] [] fun _ => seg [(8, sc gm3 0 t.length t.length), (9, vi 0)] [(0, none)] [] trivial fun ac wd hS => ?_
     refine wp_ret ?_
     refine St.retC 0 hS (.tuple #[sc gm3 0 t.length t.length, vi 0]) [] trivial fun hw => ?_
     refine ⟨(some ⟨gm3, 0, none⟩), t.length, gm3, 0, retd (tuple2 (slN ?_) (vint ?_)), (by first | exact (.inr rfl) | exact .inl hz_ | (rw [← hD]; exact (.inr rfl))), (by have hg_ : w.heap.size ≤ gm3 := (hw.getm 0 gm3 (.row 271 (t.length * 2) (t.length * 2) (tgV (updF eq (Int.toNat i) (s_, a)) 0))).resolve_right (fun h => h); omega), (HE.row_to (hw.get 0 gm3 (.row 271 (t.length * 2) (t.length * 2) (tgV (updF eq (Int.toNat i) (s_, a)) 0))) ?_ ?_), hw.fr0⟩
     all_goals (first | (first | rfl | (simp; done) | (rw [← hD]; done) | (rw [rlQ_len]; omega) | (rw [← hD]; exact (layL_len _ _ _ _ _).symm) | exact hE | exact tgV_cg0 (fun k_ hk_ => by rw [← hD]; first | exact layE_0 i1 (by omega) hs0 k_ hk_ | exact layE_1 i1 (by omega) hs0 (by omega) (by omega) (by omega) k_ hk_) | (intro x_ _ _; rw [← hD])) | (intro x_ hx_; rfl) | (intro x_ hx_ hy_; rfl))
    ·
     have hs0 : s_ = 0 := by have := hb7; omega
     refine wp_skip ?_
     refine pop_then ?_
     refine hS.regS [0, 0, 0] [] fun _ => seg [(8, sc gm3 0 t.length t.length), (9, vi 0)] [(0, none)] [] trivial fun ac wd hS => ?_
     refine wp_ret ?_
     refine St.retC 0 hS (.tuple #[sc gm3 0 t.length t.length, vi 0]) [] trivial fun hw => ?_
     refine ⟨(some ⟨gm3, 0, none⟩), t.length, gm3, 0, retd (tuple2 (slN ?_) (vint ?_)), (by first | exact (.inr rfl) | exact .inl hz_ | (rw [← hD]; exact (.inr rfl))), (by have hg_ : w.heap.size ≤ gm3 := (hw.getm 0 gm3 (.row 271 (t.length * 2) (t.length * 2) (tgV eq 0))).resolve_right (fun h => h); omega), (HE.row_to (hw.get 0 gm3 (.row 271 (t.length * 2) (t.length * 2) (tgV eq 0))) ?_ ?_), hw.fr0⟩
     all_goals (first | (first | rfl | (simp; done) | (rw [← hD]; done) | (rw [rlQ_len]; omega) | (rw [← hD]; exact (layL_len _ _ _ _ _).symm) | exact hE | exact tgV_cg0 (fun k_ hk_ => by rw [← hD]; first | exact layE_0 i1 (by omega) hs0 k_ hk_ | exact layE_1 i1 (by omega) hs0 (by omega) (by omega) (by omega) k_ hk_) | (intro x_ _ _; rw [← hD])) | (intro x_ hx_; rfl) | (intro x_ hx_ hy_; rfl))

theorem str_Repeat (s : ByteArray) (c : Int) (w : World) (hc : 0 ≤ c ∧ (s.size : Int) * c ≤ 1048576 ∧ c ≤ 1048576) :
    Calls Tryd.prog 170 #[.string s, vi c] w fun e w' => e = .returned (.string (repS s (Int.toNat c))) ∧ Fr w w' no no := by
 obtain ⟨h0, h1, h2⟩ := hc
 obtain ⟨n, rfl⟩ : ∃ n : Nat, c = n := ⟨c.toNat, by omega⟩
 refine (Tryd.strings_Repeat s n w (by omega) ?_).mono fun e w' h9 => ⟨?_, Below_Fr h9.2⟩
 · have h3 : ((s.size * n : Nat) : Int) ≤ 1048576 := by rw [Int.natCast_mul]; exact h1
   omega
 · rw [h9.1, Int.toNat_natCast]; rfl

theorem tags_laid_in (s_ : Int) (r_ : Int) (w : World) (h1 : 0 ≤ s_ ∧ s_ ≤ 3) (h2 : 0 ≤ r_ ∧ r_ ≤ 10) :
    Calls Tryd.prog 168 #[.agg #[v8 s_, v8 r_]] w fun e w' => e = .returned (v8 (s_ + 4 * r_)) ∧ Fr w w' no no := by
 have h_ := tags_laid s_ r_ w
 rw [tgb_in h1 h2] at h_
 exact h_

set_option maxRecDepth 100000 in
set_option maxHeartbeats 1000000 in
theorem tags_Lay (b : Nat) (F : Nat → Prop) (m : AM) (o_ : Int) (z : Int) (i : Int) (a : Int) (s_ : Int) (w : World) (hr : (arR b F m).R w) (ho : 0 ≤ o_ ∧ 0 ≤ z ∧ o_ + z ≤ 4294967296) (hs : 0 ≤ s_ ∧ s_ ≤ 255) :
    Calls Tryd.prog 95 #[.agg #[pt b 0, vi o_, vi z], vi i, vi a, v8 s_] w fun e w' => ∃ (F' : Nat → Prop), e = .returned (vi (tgLE m o_ z i a s_)) ∧ (arR b F' (tgLM m o_ z i a s_)).R w' ∧ Fr w w' F F' := by
 refine enter (args := [.agg #[pt b 0, vi o_, vi z], vi i, vi a, v8 s_]) (D := F) (A := [arR b F m]) Tryd.func95 rfl 51 rfl [] (WS.startA (r := arR b F m) hr trivial trivial) fun ac hS => ?_
 refine hS.regS [0, 0] [1, 2, 3] fun ν1 => seg [(4, pt (ν1 0) 0)] [(0, some ((ν1 0), .cells [pt b 0, vi o_, vi z] 184))] [] trivial fun ac wd hS => ?_
 refine wp_seq ?_
 refine wp_block ?_
 refine hS.regS [0, 0, 0, 0, 0] [1, 2, 3, 4] fun _ => seg [(11, vb false)] [(0, none)] [.e (ν1 0)] trivial fun ac wd hS => ?_
 refine hS.condF ?_
 refine wp_seq ?_
 refine hS.regS [0, 0, 0, 3, 3, 80, 0] [1, 2, 3, 4] fun _ => seg [(16, vb ((decide ((a : Int) < 0)) || (decide ((10 : Int) < a))))] [(0, none)] [] trivial fun ac wd hS => ?_
 refine hS.condC ((decide ((a : Int) < 0)) || (decide ((10 : Int) < a))) (fun hb1o hb1 => ?_) (fun hb1o hb1 => ?_)
 ·
  have hbd : rlBad a s_ = true := by unfold rlBad; rw [hb1o]; rfl
  have hD := tl_1 (m := m) (o := o_) (z := z) (i := i) hbd
  replace hS := hS.fix 16 (vb true) (congrArg Value.bool hb1o)
  refine wp_skip ?_
  refine pop_then ?_
  refine hS.condT ?_
  refine hS.regS [0] [] fun _ => seg [(8, vi 2)] [] [] trivial fun ac wd hS => ?_
  refine wp_ret ?_
  refine pop_block_ret ?_
  refine pop_then_ret ?_
  refine St.retC 0 hS (vi 2) [] trivial fun hw => ?_
  refine ⟨F, retd (vint ?_), (res_eq (r := arR b F m) (by first | exact congrArg _ hD.2 | exact congrArg _ ((congrArg (vptM m o_ z i) (tagS_0 hs0)).trans hD.2) | exact congrArg _ ((congrArg (vptM m o_ z i) (tagS_1 hs0)).trans hD.2)) (hw.res 0)), hw.frA⟩
  all_goals (first | exact hD.1 | exact (congrArg (vptE m o_ z i) (tagS_0 hs0)).trans hD.1 | exact (congrArg (vptE m o_ z i) (tagS_1 hs0)).trans hD.1)
 ·
  have hA := hb1o
  replace hS := hS.fix 16 (vb false) (congrArg Value.bool hb1o)
  refine hS.regS [0, 0, 0] [1, 2, 3, 4] fun _ => seg [(16, vb ((s_ : Int) == 1))] [(0, none)] [] trivial fun ac wd hS => ?_
  refine hS.condC ((s_ : Int) == 1) (fun hb2o hb2 => ?_) (fun hb2o hb2 => ?_)
  ·
   have hbd : rlBad a s_ = true := by unfold rlBad; rw [hA, hb2o]; rfl
   have hD := tl_1 (m := m) (o := o_) (z := z) (i := i) hbd
   replace hS := hS.fix 16 (vb true) (congrArg Value.bool hb2o)
   refine wp_skip ?_
   refine pop_then ?_
   refine hS.condT ?_
   refine hS.regS [0] [] fun _ => seg [(8, vi 2)] [] [] trivial fun ac wd hS => ?_
   refine wp_ret ?_
   refine pop_block_ret ?_
   refine pop_then_ret ?_
   refine St.retC 0 hS (vi 2) [] trivial fun hw => ?_
   refine ⟨F, retd (vint ?_), (res_eq (r := arR b F m) (by first | exact congrArg _ hD.2 | exact congrArg _ ((congrArg (vptM m o_ z i) (tagS_0 hs0)).trans hD.2) | exact congrArg _ ((congrArg (vptM m o_ z i) (tagS_1 hs0)).trans hD.2)) (hw.res 0)), hw.frA⟩
   all_goals (first | exact hD.1 | exact (congrArg (vptE m o_ z i) (tagS_0 hs0)).trans hD.1 | exact (congrArg (vptE m o_ z i) (tagS_1 hs0)).trans hD.1)
  ·
   have hB := hb2o
   replace hS := hS.fix 16 (vb false) (congrArg Value.bool hb2o)
   refine hS.regC [0, 0, 0] [1, 2, 3, 4] fun _ => seg [(16, vb (decide ((3 : Int) < s_)))] [(0, none)] [] trivial fun ac wd hS => ?_
   refine pop_then ?_
   refine hS.condC (decide ((3 : Int) < s_)) (fun hb3o hb3 => ?_) (fun hb3o hb3 => ?_)
   ·
    have hbd : rlBad a s_ = true := by unfold rlBad; rw [hA, hB, hb3o]; rfl
    have hD := tl_1 (m := m) (o := o_) (z := z) (i := i) hbd
    replace hS := hS.fix 16 (vb true) (congrArg Value.bool hb3o)
    refine hS.regS [0] [] fun _ => seg [(8, vi 2)] [] [] trivial fun ac wd hS => ?_
    refine wp_ret ?_
    refine pop_block_ret ?_
    refine pop_then_ret ?_
    refine St.retC 0 hS (vi 2) [] trivial fun hw => ?_
    refine ⟨F, retd (vint ?_), (res_eq (r := arR b F m) (by first | exact congrArg _ hD.2 | exact congrArg _ ((congrArg (vptM m o_ z i) (tagS_0 hs0)).trans hD.2) | exact congrArg _ ((congrArg (vptM m o_ z i) (tagS_1 hs0)).trans hD.2)) (hw.res 0)), hw.frA⟩
    all_goals (first | exact hD.1 | exact (congrArg (vptE m o_ z i) (tagS_0 hs0)).trans hD.1 | exact (congrArg (vptE m o_ z i) (tagS_1 hs0)).trans hD.1)
   ·
    have hbd : rlBad a s_ = false := by unfold rlBad; rw [hA, hB, hb3o]; rfl
    obtain ⟨hy1, hy2, hy3, hy4⟩ := rlBad_in hbd
    have hpg := pgsN_bd hy2
    have hsh := pgsN_shl a
    have hD := tl_2 (m := m) (o := o_) (z := z) (i := i) hbd
    replace hS := hS.fix 16 (vb false) (congrArg Value.bool hb3o)
    refine wp_skip ?_
    refine pop_block ?_
    refine pop_then ?_
    refine wp_region_seq ?_
    refine hS.opsC 4 [0, 0, 20, 0] [1, 2, 3, 4] fun _ => seg [(30, .agg #[v8 s_, v8 a])] [(0, none)] [.p (fit .u8 a)] ⟨fit_u8 (by omega), trivial⟩ fun ac wd hS => ?_
    refine hS.call0 168 #[.agg #[v8 s_, v8 a]] 31 (tags_laid_in s_ a _  (by first | assumption | omega | (simp_all; done) | (simp_all; omega)) (by first | assumption | omega | (simp_all; done) | (simp_all; omega))) fun ac wd hS => ?_
    refine hS.opsC 1 [0] [1, 2, 3, 4, 31] fun _ => seg [(32, .agg #[v8 1, v8 0])] [(0, none)] [] trivial fun ac wd hS => ?_
    refine hS.call0 168 #[.agg #[v8 1, v8 0]] 33 (tags_laid_in 1 0 _  (by first | assumption | omega | (simp_all; done) | (simp_all; omega)) (by first | assumption | omega | (simp_all; done) | (simp_all; omega))) fun ac wd hS => ?_
    refine hS.opsC 2 [0, 0] [1, 2, 3, 4] fun _ => seg [(9, v8 (s_ + 4 * a)), (10, v8 (1 + 4 * 0))] [(0, none)] [] trivial fun ac wd hS => ?_
    refine list_nil_seq ?_
    refine wp_seq ?_
    refine hS.regS [0, 0] [1, 2, 4, 9, 10] fun _ => seg [(35, vb ((s_ : Int) == 0))] [(0, none)] [] trivial fun ac wd hS => ?_
    refine hS.condC ((s_ : Int) == 0) (fun hb4o hb4 => ?_) (fun hb4o hb4 => ?_)
    ·
     have hs0 : s_ = 0 := hb4
     replace hS := hS.fix 35 (vb true) (congrArg Value.bool hb4o)
     refine hS.regC [0, 0] [1, 2, 4] fun _ => seg [(9, v8 0), (10, v8 0)] [(0, none)] [] trivial fun ac wd hS => ?_
     refine pop_then ?_
     refine St.ordBeginTS [(0, 1), (1, 1), (2, 1), (3, 1), (6, 1), (9, 1), (10, 1), (11, 1), (4, 0), (5, 0), (7, 0), (8, 0), (12, 0), (13, 1), (14, 0), (15, 1)] (.two [(0, 1), (1, 1), (2, 1), (3, 1), (6, 1), (9, 1), (10, 1), (11, 1)] 4 (.two [] 5 (.lin [(7, 0), (8, 0), (12, 0), (13, 1), (14, 0), (15, 1)]) 7 (.two [] 5 (.lin [(8, 0), (12, 0), (13, 1), (14, 0), (15, 1)]) 8 (.two [] 5 (.lin [(12, 0), (13, 1), (14, 0), (15, 1)]) 12 (.lin [(5, 0), (13, 1), (14, 0), (15, 1)])))) 7 (.two [] 4 (.two [] 5 (.lin [(8, 0), (12, 0), (13, 1), (14, 0), (15, 1)]) 8 (.two [] 5 (.lin [(12, 0), (13, 1), (14, 0), (15, 1)]) 12 (.lin [(5, 0), (13, 1), (14, 0), (15, 1)]))) 8 (.two [] 4 (.two [] 5 (.lin [(12, 0), (13, 1), (14, 0), (15, 1)]) 12 (.lin [(5, 0), (13, 1), (14, 0), (15, 1)])) 12 (.lin [(4, 0), (5, 0), (13, 1), (14, 0), (15, 1)])))) [((ν1 0), .cells [pt b 0, vi o_, vi z] 184)] [0] hS fun wd hS => ?_
     have hap := hS.mem.pairs (Hf := [((ν1 0), .cells [pt b 0, vi o_, vi z] 184)]) (l := [0])
     refine wpT_two ?_
     refine St.ordF [0, 0, 0, 0, 0, 0, 20, 20] [0, 1, 2, 3, 6, 9, 10, 11] [] (rest := []) hS hap <| segF [(37, .agg #[pt b 0, vi o_, vi z]), (38, vi i), (39, v8 0), (42, v8 0), (47, vi ((1 * (2 ^ Int.toNat a)) - 1))] [.p (fit .i64 ((1 * (2 ^ Int.toNat a)) - 1)), .p (0 ≤ a ∧ IntKind.i64.wrap (1 * 2 ^ (min (Int.toNat a) 64)) = (1 * (2 ^ Int.toNat a))), .e (ν1 0), .e (ν1 0), .e (ν1 0)] ⟨fit_i64 (by omega), shl2_i64 (by omega) (by omega) (by exact pgsN_sh hy2), trivial⟩ fun ac hS => ?_
     refine ord_nil ?_
     refine ⟨?_, ?_⟩
     ·
      refine St.ord1 4 [0] [37, 38, 42, 47] [0] hS rfl fun ν14 => seg [(40, sc (ν14 0) 0 1 1)] [(0, none), (1, some ((ν14 0), .cells [v8 0] 5))] [] trivial ⟨by as_aux_lemma => kernel_rfl, fun ac wd hS => ?_⟩
      refine ord_nil ?_
      refine wpT_two ?_
      refine ord_nil ?_
      refine ⟨?_, ?_⟩
      ·
       refine Runs1.ord (i := 5) ?_
       refine St.toStr hS (.tmp 40) 215 9 rfl rfl (by decide) Tryd.underlying215 Tryd.underlying5 Tryd.underlying9 (b := (ν14 0)) (off := 0) (k := 1) (cp := 1) (fun _ => u8 0) (Cells8.one (hS.mem.get 1 (ν14 0) (.cells [v8 0] 5)) (by omega)) fun ac hS => ?_
       refine hS.ordV (l := [0]) ?_
       refine ord_nil ?_
       refine wpT_lin ?_
       refine St.ord1 7 [0] [37, 38, 41, 47] [0] hS rfl fun ν15 => seg [(43, sc (ν15 0) 0 1 1)] [(0, none), (1, none), (2, some ((ν15 0), .cells [v8 0] 5))] [] trivial ⟨by as_aux_lemma => kernel_rfl, fun ac wd hS => ?_⟩
       refine Runs1.ord (i := 8) ?_
       refine St.toStr hS (.tmp 43) 215 9 rfl rfl (by decide) Tryd.underlying215 Tryd.underlying5 Tryd.underlying9 (b := (ν15 0)) (off := 0) (k := 1) (cp := 1) (fun _ => u8 0) (Cells8.one (hS.mem.get 2 (ν15 0) (.cells [v8 0] 5)) (by omega)) fun ac hS => ?_
       refine hS.ordV (l := [0]) ?_
       refine hS.ordC 12 170 #[.string (bs (fun _ => u8 0) 1), vi ((1 * (2 ^ Int.toNat a)) - 1)] (str_Repeat (bs (fun _ => u8 0) 1) ((1 * (2 ^ Int.toNat a)) - 1) _  (by (rw [bs_size]; omega))) ?_
       rintro _ wd ⟨rfl, hF⟩
       refine ⟨.string (repS (bs (fun _ => u8 0) 1) (Int.toNat ((1 * (2 ^ Int.toNat a)) - 1))), rfl, ?_⟩
       replace hS := (hS.to (hS.mem.keep0 hF)).put (d := 48) (v := .string (repS (bs (fun _ => u8 0) 1) (Int.toNat ((1 * (2 ^ Int.toNat a)) - 1)))) (by decide)
       clear hF
       refine hS.ordV (l := [0]) ?_
       refine St.ordF [10] [13] [37, 38] (rest := [(14, 0), (15, 1)]) hS hap <| segF [(49, .string ((bs (fun _ => u8 0) 1) ++ (repS (bs (fun _ => u8 0) 1) (Int.toNat ((1 * (2 ^ Int.toNat a)) - 1)))))] [.p (((ByteArray.size (bs (fun _ => u8 0) 1) + ByteArray.size (repS (bs (fun _ => u8 0) 1) (Int.toNat ((1 * (2 ^ Int.toNat a)) - 1))) : Nat) : Int) ≤ IntKind.i64.max)] ⟨(by (rw [bs_size, repS_size]; have hmx : IntKind.i64.max = 9223372036854775807 := rfl; omega)), trivial⟩ fun ac hS => ?_
       refine hS.ordC 14 169 #[.agg #[pt b 0, vi o_, vi z], vi i, .string ((bs (fun _ => u8 0) 1) ++ (repS (bs (fun _ => u8 0) 1) (Int.toNat ((1 * (2 ^ Int.toNat a)) - 1))))] (vw_Put b F m o_ z i ((bs (fun _ => u8 0) 1) ++ (repS (bs (fun _ => u8 0) 1) (Int.toNat ((1 * (2 ^ Int.toNat a)) - 1)))) _ (hS.mem.res 0) (by first | assumption | omega | (simp_all; done) | (simp_all; omega))) ?_
       rintro _ wd ⟨F5, rfl, hA, hF⟩
       refine ⟨vi (vptE m o_ z i ((bs (fun _ => u8 0) 1) ++ (repS (bs (fun _ => u8 0) 1) (Int.toNat ((1 * (2 ^ Int.toNat a)) - 1))))), rfl, ?_⟩
       replace hS := (hS.to (hS.mem.stepA 0 rfl hA hF)).put (d := 50) (v := vi (vptE m o_ z i ((bs (fun _ => u8 0) 1) ++ (repS (bs (fun _ => u8 0) 1) (Int.toNat ((1 * (2 ^ Int.toNat a)) - 1)))))) (by decide)
       clear hF
       refine hS.ordV (l := [0]) ?_
       refine St.ordF [0] [15] [] (rest := []) hS hap <| segF [(8, vi (vptE m o_ z i ((bs (fun _ => u8 0) 1) ++ (repS (bs (fun _ => u8 0) 1) (Int.toNat ((1 * (2 ^ Int.toNat a)) - 1))))))] [] trivial fun ac hS => ?_
       refine ord_nil ?_
       refine wp_ret ?_
       refine St.retC 0 hS (vi (vptE m o_ z i ((bs (fun _ => u8 0) 1) ++ (repS (bs (fun _ => u8 0) 1) (Int.toNat ((1 * (2 ^ Int.toNat a)) - 1)))))) [] trivial fun hw => ?_
       refine ⟨F5, retd (vint ?_), (res_eq (r := arR b F5 (vptM m o_ z i ((bs (fun _ => u8 0) 1) ++ (repS (bs (fun _ => u8 0) 1) (Int.toNat ((1 * (2 ^ Int.toNat a)) - 1)))))) (by first | exact congrArg _ hD.2 | exact congrArg _ ((congrArg (vptM m o_ z i) (tagS_0 hs0)).trans hD.2) | exact congrArg _ ((congrArg (vptM m o_ z i) (tagS_1 hs0)).trans hD.2)) (hw.res 0)), hw.frA⟩
       all_goals (first | exact hD.1 | exact (congrArg (vptE m o_ z i) (tagS_0 hs0)).trans hD.1 | exact (congrArg (vptE m o_ z i) (tagS_1 hs0)).trans hD.1)
      ·
       refine St.ord1 7 [0] [37, 38, 40, 47] [0] hS rfl fun ν16 => seg [(43, sc (ν16 0) 0 1 1)] [(0, none), (1, none), (2, some ((ν16 0), .cells [v8 0] 5))] [] trivial ⟨by as_aux_lemma => kernel_rfl, fun ac wd hS => ?_⟩
       refine ord_nil ?_
       refine wpT_two ?_
       refine ord_nil ?_
       refine ⟨?_, ?_⟩
       ·
        refine Runs1.ord (i := 5) ?_
        refine St.toStr hS (.tmp 40) 215 9 rfl rfl (by decide) Tryd.underlying215 Tryd.underlying5 Tryd.underlying9 (b := (ν14 0)) (off := 0) (k := 1) (cp := 1) (fun _ => u8 0) (Cells8.one (hS.mem.get 1 (ν14 0) (.cells [v8 0] 5)) (by omega)) fun ac hS => ?_
        refine hS.ordV (l := [0]) ?_
        refine ord_nil ?_
        refine wpT_lin ?_
        refine Runs1.ord (i := 8) ?_
        refine St.toStr hS (.tmp 43) 215 9 rfl rfl (by decide) Tryd.underlying215 Tryd.underlying5 Tryd.underlying9 (b := (ν16 0)) (off := 0) (k := 1) (cp := 1) (fun _ => u8 0) (Cells8.one (hS.mem.get 2 (ν16 0) (.cells [v8 0] 5)) (by omega)) fun ac hS => ?_
        refine hS.ordV (l := [0]) ?_
        refine hS.ordC 12 170 #[.string (bs (fun _ => u8 0) 1), vi ((1 * (2 ^ Int.toNat a)) - 1)] (str_Repeat (bs (fun _ => u8 0) 1) ((1 * (2 ^ Int.toNat a)) - 1) _  (by (rw [bs_size]; omega))) ?_
        rintro _ wd ⟨rfl, hF⟩
        refine ⟨.string (repS (bs (fun _ => u8 0) 1) (Int.toNat ((1 * (2 ^ Int.toNat a)) - 1))), rfl, ?_⟩
        replace hS := (hS.to (hS.mem.keep0 hF)).put (d := 48) (v := .string (repS (bs (fun _ => u8 0) 1) (Int.toNat ((1 * (2 ^ Int.toNat a)) - 1)))) (by decide)
        clear hF
        refine hS.ordV (l := [0]) ?_
        refine St.ordF [10] [13] [37, 38] (rest := [(14, 0), (15, 1)]) hS hap <| segF [(49, .string ((bs (fun _ => u8 0) 1) ++ (repS (bs (fun _ => u8 0) 1) (Int.toNat ((1 * (2 ^ Int.toNat a)) - 1)))))] [.p (((ByteArray.size (bs (fun _ => u8 0) 1) + ByteArray.size (repS (bs (fun _ => u8 0) 1) (Int.toNat ((1 * (2 ^ Int.toNat a)) - 1))) : Nat) : Int) ≤ IntKind.i64.max)] ⟨(by (rw [bs_size, repS_size]; have hmx : IntKind.i64.max = 9223372036854775807 := rfl; omega)), trivial⟩ fun ac hS => ?_
        refine hS.ordC 14 169 #[.agg #[pt b 0, vi o_, vi z], vi i, .string ((bs (fun _ => u8 0) 1) ++ (repS (bs (fun _ => u8 0) 1) (Int.toNat ((1 * (2 ^ Int.toNat a)) - 1))))] (vw_Put b F m o_ z i ((bs (fun _ => u8 0) 1) ++ (repS (bs (fun _ => u8 0) 1) (Int.toNat ((1 * (2 ^ Int.toNat a)) - 1)))) _ (hS.mem.res 0) (by first | assumption | omega | (simp_all; done) | (simp_all; omega))) ?_
        rintro _ wd ⟨F6, rfl, hA, hF⟩
        refine ⟨vi (vptE m o_ z i ((bs (fun _ => u8 0) 1) ++ (repS (bs (fun _ => u8 0) 1) (Int.toNat ((1 * (2 ^ Int.toNat a)) - 1))))), rfl, ?_⟩
        replace hS := (hS.to (hS.mem.stepA 0 rfl hA hF)).put (d := 50) (v := vi (vptE m o_ z i ((bs (fun _ => u8 0) 1) ++ (repS (bs (fun _ => u8 0) 1) (Int.toNat ((1 * (2 ^ Int.toNat a)) - 1)))))) (by decide)
        clear hF
        refine hS.ordV (l := [0]) ?_
        refine St.ordF [0] [15] [] (rest := []) hS hap <| segF [(8, vi (vptE m o_ z i ((bs (fun _ => u8 0) 1) ++ (repS (bs (fun _ => u8 0) 1) (Int.toNat ((1 * (2 ^ Int.toNat a)) - 1))))))] [] trivial fun ac hS => ?_
        refine ord_nil ?_
        refine wp_ret ?_
        refine St.retC 0 hS (vi (vptE m o_ z i ((bs (fun _ => u8 0) 1) ++ (repS (bs (fun _ => u8 0) 1) (Int.toNat ((1 * (2 ^ Int.toNat a)) - 1)))))) [] trivial fun hw => ?_
        refine ⟨F6, retd (vint ?_), (res_eq (r := arR b F6 (vptM m o_ z i ((bs (fun _ => u8 0) 1) ++ (repS (bs (fun _ => u8 0) 1) (Int.toNat ((1 * (2 ^ Int.toNat a)) - 1)))))) (by first | exact congrArg _ hD.2 | exact congrArg _ ((congrArg (vptM m o_ z i) (tagS_0 hs0)).trans hD.2) | exact congrArg _ ((congrArg (vptM m o_ z i) (tagS_1 hs0)).trans hD.2)) (hw.res 0)), hw.frA⟩
        all_goals (first | exact hD.1 | exact (congrArg (vptE m o_ z i) (tagS_0 hs0)).trans hD.1 | exact (congrArg (vptE m o_ z i) (tagS_1 hs0)).trans hD.1)
       ·
        refine Runs1.ord (i := 8) ?_
        refine St.toStr hS (.tmp 43) 215 9 rfl rfl (by decide) Tryd.underlying215 Tryd.underlying5 Tryd.underlying9 (b := (ν16 0)) (off := 0) (k := 1) (cp := 1) (fun _ => u8 0) (Cells8.one (hS.mem.get 2 (ν16 0) (.cells [v8 0] 5)) (by omega)) fun ac hS => ?_
        refine hS.ordV (l := [0]) ?_
        refine ord_nil ?_
        refine wpT_two ?_
        refine ord_nil ?_
        refine ⟨?_, ?_⟩
        ·
         refine Runs1.ord (i := 5) ?_
         refine St.toStr hS (.tmp 40) 215 9 rfl rfl (by decide) Tryd.underlying215 Tryd.underlying5 Tryd.underlying9 (b := (ν14 0)) (off := 0) (k := 1) (cp := 1) (fun _ => u8 0) (Cells8.one (hS.mem.get 1 (ν14 0) (.cells [v8 0] 5)) (by omega)) fun ac hS => ?_
         refine hS.ordV (l := [0]) ?_
         refine ord_nil ?_
         refine wpT_lin ?_
         refine hS.ordC 12 170 #[.string (bs (fun _ => u8 0) 1), vi ((1 * (2 ^ Int.toNat a)) - 1)] (str_Repeat (bs (fun _ => u8 0) 1) ((1 * (2 ^ Int.toNat a)) - 1) _  (by (rw [bs_size]; omega))) ?_
         rintro _ wd ⟨rfl, hF⟩
         refine ⟨.string (repS (bs (fun _ => u8 0) 1) (Int.toNat ((1 * (2 ^ Int.toNat a)) - 1))), rfl, ?_⟩
         replace hS := (hS.to (hS.mem.keep0 hF)).put (d := 48) (v := .string (repS (bs (fun _ => u8 0) 1) (Int.toNat ((1 * (2 ^ Int.toNat a)) - 1)))) (by decide)
         clear hF
         refine hS.ordV (l := [0]) ?_
         refine St.ordF [10] [13] [37, 38] (rest := [(14, 0), (15, 1)]) hS hap <| segF [(49, .string ((bs (fun _ => u8 0) 1) ++ (repS (bs (fun _ => u8 0) 1) (Int.toNat ((1 * (2 ^ Int.toNat a)) - 1)))))] [.p (((ByteArray.size (bs (fun _ => u8 0) 1) + ByteArray.size (repS (bs (fun _ => u8 0) 1) (Int.toNat ((1 * (2 ^ Int.toNat a)) - 1))) : Nat) : Int) ≤ IntKind.i64.max)] ⟨(by (rw [bs_size, repS_size]; have hmx : IntKind.i64.max = 9223372036854775807 := rfl; omega)), trivial⟩ fun ac hS => ?_
         refine hS.ordC 14 169 #[.agg #[pt b 0, vi o_, vi z], vi i, .string ((bs (fun _ => u8 0) 1) ++ (repS (bs (fun _ => u8 0) 1) (Int.toNat ((1 * (2 ^ Int.toNat a)) - 1))))] (vw_Put b F m o_ z i ((bs (fun _ => u8 0) 1) ++ (repS (bs (fun _ => u8 0) 1) (Int.toNat ((1 * (2 ^ Int.toNat a)) - 1)))) _ (hS.mem.res 0) (by first | assumption | omega | (simp_all; done) | (simp_all; omega))) ?_
         rintro _ wd ⟨F7, rfl, hA, hF⟩
         refine ⟨vi (vptE m o_ z i ((bs (fun _ => u8 0) 1) ++ (repS (bs (fun _ => u8 0) 1) (Int.toNat ((1 * (2 ^ Int.toNat a)) - 1))))), rfl, ?_⟩
         replace hS := (hS.to (hS.mem.stepA 0 rfl hA hF)).put (d := 50) (v := vi (vptE m o_ z i ((bs (fun _ => u8 0) 1) ++ (repS (bs (fun _ => u8 0) 1) (Int.toNat ((1 * (2 ^ Int.toNat a)) - 1)))))) (by decide)
         clear hF
         refine hS.ordV (l := [0]) ?_
         refine St.ordF [0] [15] [] (rest := []) hS hap <| segF [(8, vi (vptE m o_ z i ((bs (fun _ => u8 0) 1) ++ (repS (bs (fun _ => u8 0) 1) (Int.toNat ((1 * (2 ^ Int.toNat a)) - 1))))))] [] trivial fun ac hS => ?_
         refine ord_nil ?_
         refine wp_ret ?_
         refine St.retC 0 hS (vi (vptE m o_ z i ((bs (fun _ => u8 0) 1) ++ (repS (bs (fun _ => u8 0) 1) (Int.toNat ((1 * (2 ^ Int.toNat a)) - 1)))))) [] trivial fun hw => ?_
         refine ⟨F7, retd (vint ?_), (res_eq (r := arR b F7 (vptM m o_ z i ((bs (fun _ => u8 0) 1) ++ (repS (bs (fun _ => u8 0) 1) (Int.toNat ((1 * (2 ^ Int.toNat a)) - 1)))))) (by first | exact congrArg _ hD.2 | exact congrArg _ ((congrArg (vptM m o_ z i) (tagS_0 hs0)).trans hD.2) | exact congrArg _ ((congrArg (vptM m o_ z i) (tagS_1 hs0)).trans hD.2)) (hw.res 0)), hw.frA⟩
         all_goals (first | exact hD.1 | exact (congrArg (vptE m o_ z i) (tagS_0 hs0)).trans hD.1 | exact (congrArg (vptE m o_ z i) (tagS_1 hs0)).trans hD.1)
        ·
         refine hS.ordC 12 170 #[.string (bs (fun _ => u8 0) 1), vi ((1 * (2 ^ Int.toNat a)) - 1)] (str_Repeat (bs (fun _ => u8 0) 1) ((1 * (2 ^ Int.toNat a)) - 1) _  (by (rw [bs_size]; omega))) ?_
         rintro _ wd ⟨rfl, hF⟩
         refine ⟨.string (repS (bs (fun _ => u8 0) 1) (Int.toNat ((1 * (2 ^ Int.toNat a)) - 1))), rfl, ?_⟩
         replace hS := (hS.to (hS.mem.keep0 hF)).put (d := 48) (v := .string (repS (bs (fun _ => u8 0) 1) (Int.toNat ((1 * (2 ^ Int.toNat a)) - 1)))) (by decide)
         clear hF
         refine hS.ordV (l := [0]) ?_
         refine ord_nil ?_
         refine wpT_lin ?_
         refine Runs1.ord (i := 5) ?_
         refine St.toStr hS (.tmp 40) 215 9 rfl rfl (by decide) Tryd.underlying215 Tryd.underlying5 Tryd.underlying9 (b := (ν14 0)) (off := 0) (k := 1) (cp := 1) (fun _ => u8 0) (Cells8.one (hS.mem.get 1 (ν14 0) (.cells [v8 0] 5)) (by omega)) fun ac hS => ?_
         refine hS.ordV (l := [0]) ?_
         refine St.ordF [10] [13] [37, 38] (rest := [(14, 0), (15, 1)]) hS hap <| segF [(49, .string ((bs (fun _ => u8 0) 1) ++ (repS (bs (fun _ => u8 0) 1) (Int.toNat ((1 * (2 ^ Int.toNat a)) - 1)))))] [.p (((ByteArray.size (bs (fun _ => u8 0) 1) + ByteArray.size (repS (bs (fun _ => u8 0) 1) (Int.toNat ((1 * (2 ^ Int.toNat a)) - 1))) : Nat) : Int) ≤ IntKind.i64.max)] ⟨(by (rw [bs_size, repS_size]; have hmx : IntKind.i64.max = 9223372036854775807 := rfl; omega)), trivial⟩ fun ac hS => ?_
         refine hS.ordC 14 169 #[.agg #[pt b 0, vi o_, vi z], vi i, .string ((bs (fun _ => u8 0) 1) ++ (repS (bs (fun _ => u8 0) 1) (Int.toNat ((1 * (2 ^ Int.toNat a)) - 1))))] (vw_Put b F m o_ z i ((bs (fun _ => u8 0) 1) ++ (repS (bs (fun _ => u8 0) 1) (Int.toNat ((1 * (2 ^ Int.toNat a)) - 1)))) _ (hS.mem.res 0) (by first | assumption | omega | (simp_all; done) | (simp_all; omega))) ?_
         rintro _ wd ⟨F8, rfl, hA, hF⟩
         refine ⟨vi (vptE m o_ z i ((bs (fun _ => u8 0) 1) ++ (repS (bs (fun _ => u8 0) 1) (Int.toNat ((1 * (2 ^ Int.toNat a)) - 1))))), rfl, ?_⟩
         replace hS := (hS.to (hS.mem.stepA 0 rfl hA hF)).put (d := 50) (v := vi (vptE m o_ z i ((bs (fun _ => u8 0) 1) ++ (repS (bs (fun _ => u8 0) 1) (Int.toNat ((1 * (2 ^ Int.toNat a)) - 1)))))) (by decide)
         clear hF
         refine hS.ordV (l := [0]) ?_
         refine St.ordF [0] [15] [] (rest := []) hS hap <| segF [(8, vi (vptE m o_ z i ((bs (fun _ => u8 0) 1) ++ (repS (bs (fun _ => u8 0) 1) (Int.toNat ((1 * (2 ^ Int.toNat a)) - 1))))))] [] trivial fun ac hS => ?_
         refine ord_nil ?_
         refine wp_ret ?_
         refine St.retC 0 hS (vi (vptE m o_ z i ((bs (fun _ => u8 0) 1) ++ (repS (bs (fun _ => u8 0) 1) (Int.toNat ((1 * (2 ^ Int.toNat a)) - 1)))))) [] trivial fun hw => ?_
         refine ⟨F8, retd (vint ?_), (res_eq (r := arR b F8 (vptM m o_ z i ((bs (fun _ => u8 0) 1) ++ (repS (bs (fun _ => u8 0) 1) (Int.toNat ((1 * (2 ^ Int.toNat a)) - 1)))))) (by first | exact congrArg _ hD.2 | exact congrArg _ ((congrArg (vptM m o_ z i) (tagS_0 hs0)).trans hD.2) | exact congrArg _ ((congrArg (vptM m o_ z i) (tagS_1 hs0)).trans hD.2)) (hw.res 0)), hw.frA⟩
         all_goals (first | exact hD.1 | exact (congrArg (vptE m o_ z i) (tagS_0 hs0)).trans hD.1 | exact (congrArg (vptE m o_ z i) (tagS_1 hs0)).trans hD.1)
     ·
      refine St.ord1 7 [0] [37, 38, 39, 47] [0] hS rfl fun ν17 => seg [(43, sc (ν17 0) 0 1 1)] [(0, none), (1, some ((ν17 0), .cells [v8 0] 5))] [] trivial ⟨by as_aux_lemma => kernel_rfl, fun ac wd hS => ?_⟩
      refine ord_nil ?_
      refine wpT_two ?_
      refine ord_nil ?_
      refine ⟨?_, ?_⟩
      ·
       refine St.ord1 4 [0] [37, 38, 43, 47] [0] hS rfl fun ν18 => seg [(40, sc (ν18 0) 0 1 1)] [(0, none), (1, none), (2, some ((ν18 0), .cells [v8 0] 5))] [] trivial ⟨by as_aux_lemma => kernel_rfl, fun ac wd hS => ?_⟩
       refine ord_nil ?_
       refine wpT_two ?_
       refine ord_nil ?_
       refine ⟨?_, ?_⟩
       ·
        refine Runs1.ord (i := 5) ?_
        refine St.toStr hS (.tmp 40) 215 9 rfl rfl (by decide) Tryd.underlying215 Tryd.underlying5 Tryd.underlying9 (b := (ν18 0)) (off := 0) (k := 1) (cp := 1) (fun _ => u8 0) (Cells8.one (hS.mem.get 2 (ν18 0) (.cells [v8 0] 5)) (by omega)) fun ac hS => ?_
        refine hS.ordV (l := [0]) ?_
        refine ord_nil ?_
        refine wpT_lin ?_
        refine Runs1.ord (i := 8) ?_
        refine St.toStr hS (.tmp 43) 215 9 rfl rfl (by decide) Tryd.underlying215 Tryd.underlying5 Tryd.underlying9 (b := (ν17 0)) (off := 0) (k := 1) (cp := 1) (fun _ => u8 0) (Cells8.one (hS.mem.get 1 (ν17 0) (.cells [v8 0] 5)) (by omega)) fun ac hS => ?_
        refine hS.ordV (l := [0]) ?_
        refine hS.ordC 12 170 #[.string (bs (fun _ => u8 0) 1), vi ((1 * (2 ^ Int.toNat a)) - 1)] (str_Repeat (bs (fun _ => u8 0) 1) ((1 * (2 ^ Int.toNat a)) - 1) _  (by (rw [bs_size]; omega))) ?_
        rintro _ wd ⟨rfl, hF⟩
        refine ⟨.string (repS (bs (fun _ => u8 0) 1) (Int.toNat ((1 * (2 ^ Int.toNat a)) - 1))), rfl, ?_⟩
        replace hS := (hS.to (hS.mem.keep0 hF)).put (d := 48) (v := .string (repS (bs (fun _ => u8 0) 1) (Int.toNat ((1 * (2 ^ Int.toNat a)) - 1)))) (by decide)
        clear hF
        refine hS.ordV (l := [0]) ?_
        refine St.ordF [10] [13] [37, 38] (rest := [(14, 0), (15, 1)]) hS hap <| segF [(49, .string ((bs (fun _ => u8 0) 1) ++ (repS (bs (fun _ => u8 0) 1) (Int.toNat ((1 * (2 ^ Int.toNat a)) - 1)))))] [.p (((ByteArray.size (bs (fun _ => u8 0) 1) + ByteArray.size (repS (bs (fun _ => u8 0) 1) (Int.toNat ((1 * (2 ^ Int.toNat a)) - 1))) : Nat) : Int) ≤ IntKind.i64.max)] ⟨(by (rw [bs_size, repS_size]; have hmx : IntKind.i64.max = 9223372036854775807 := rfl; omega)), trivial⟩ fun ac hS => ?_
        refine hS.ordC 14 169 #[.agg #[pt b 0, vi o_, vi z], vi i, .string ((bs (fun _ => u8 0) 1) ++ (repS (bs (fun _ => u8 0) 1) (Int.toNat ((1 * (2 ^ Int.toNat a)) - 1))))] (vw_Put b F m o_ z i ((bs (fun _ => u8 0) 1) ++ (repS (bs (fun _ => u8 0) 1) (Int.toNat ((1 * (2 ^ Int.toNat a)) - 1)))) _ (hS.mem.res 0) (by first | assumption | omega | (simp_all; done) | (simp_all; omega))) ?_
        rintro _ wd ⟨F9, rfl, hA, hF⟩
        refine ⟨vi (vptE m o_ z i ((bs (fun _ => u8 0) 1) ++ (repS (bs (fun _ => u8 0) 1) (Int.toNat ((1 * (2 ^ Int.toNat a)) - 1))))), rfl, ?_⟩
        replace hS := (hS.to (hS.mem.stepA 0 rfl hA hF)).put (d := 50) (v := vi (vptE m o_ z i ((bs (fun _ => u8 0) 1) ++ (repS (bs (fun _ => u8 0) 1) (Int.toNat ((1 * (2 ^ Int.toNat a)) - 1)))))) (by decide)
        clear hF
        refine hS.ordV (l := [0]) ?_
        refine St.ordF [0] [15] [] (rest := []) hS hap <| segF [(8, vi (vptE m o_ z i ((bs (fun _ => u8 0) 1) ++ (repS (bs (fun _ => u8 0) 1) (Int.toNat ((1 * (2 ^ Int.toNat a)) - 1))))))] [] trivial fun ac hS => ?_
        refine ord_nil ?_
        refine wp_ret ?_
        refine St.retC 0 hS (vi (vptE m o_ z i ((bs (fun _ => u8 0) 1) ++ (repS (bs (fun _ => u8 0) 1) (Int.toNat ((1 * (2 ^ Int.toNat a)) - 1)))))) [] trivial fun hw => ?_
        refine ⟨F9, retd (vint ?_), (res_eq (r := arR b F9 (vptM m o_ z i ((bs (fun _ => u8 0) 1) ++ (repS (bs (fun _ => u8 0) 1) (Int.toNat ((1 * (2 ^ Int.toNat a)) - 1)))))) (by first | exact congrArg _ hD.2 | exact congrArg _ ((congrArg (vptM m o_ z i) (tagS_0 hs0)).trans hD.2) | exact congrArg _ ((congrArg (vptM m o_ z i) (tagS_1 hs0)).trans hD.2)) (hw.res 0)), hw.frA⟩
        all_goals (first | exact hD.1 | exact (congrArg (vptE m o_ z i) (tagS_0 hs0)).trans hD.1 | exact (congrArg (vptE m o_ z i) (tagS_1 hs0)).trans hD.1)
       ·
        refine Runs1.ord (i := 8) ?_
        refine St.toStr hS (.tmp 43) 215 9 rfl rfl (by decide) Tryd.underlying215 Tryd.underlying5 Tryd.underlying9 (b := (ν17 0)) (off := 0) (k := 1) (cp := 1) (fun _ => u8 0) (Cells8.one (hS.mem.get 1 (ν17 0) (.cells [v8 0] 5)) (by omega)) fun ac hS => ?_
        refine hS.ordV (l := [0]) ?_
        refine ord_nil ?_
        refine wpT_two ?_
        refine ord_nil ?_
        refine ⟨?_, ?_⟩
        ·
         refine Runs1.ord (i := 5) ?_
         refine St.toStr hS (.tmp 40) 215 9 rfl rfl (by decide) Tryd.underlying215 Tryd.underlying5 Tryd.underlying9 (b := (ν18 0)) (off := 0) (k := 1) (cp := 1) (fun _ => u8 0) (Cells8.one (hS.mem.get 2 (ν18 0) (.cells [v8 0] 5)) (by omega)) fun ac hS => ?_
         refine hS.ordV (l := [0]) ?_
         refine ord_nil ?_
         refine wpT_lin ?_
         refine hS.ordC 12 170 #[.string (bs (fun _ => u8 0) 1), vi ((1 * (2 ^ Int.toNat a)) - 1)] (str_Repeat (bs (fun _ => u8 0) 1) ((1 * (2 ^ Int.toNat a)) - 1) _  (by (rw [bs_size]; omega))) ?_
         rintro _ wd ⟨rfl, hF⟩
         refine ⟨.string (repS (bs (fun _ => u8 0) 1) (Int.toNat ((1 * (2 ^ Int.toNat a)) - 1))), rfl, ?_⟩
         replace hS := (hS.to (hS.mem.keep0 hF)).put (d := 48) (v := .string (repS (bs (fun _ => u8 0) 1) (Int.toNat ((1 * (2 ^ Int.toNat a)) - 1)))) (by decide)
         clear hF
         refine hS.ordV (l := [0]) ?_
         refine St.ordF [10] [13] [37, 38] (rest := [(14, 0), (15, 1)]) hS hap <| segF [(49, .string ((bs (fun _ => u8 0) 1) ++ (repS (bs (fun _ => u8 0) 1) (Int.toNat ((1 * (2 ^ Int.toNat a)) - 1)))))] [.p (((ByteArray.size (bs (fun _ => u8 0) 1) + ByteArray.size (repS (bs (fun _ => u8 0) 1) (Int.toNat ((1 * (2 ^ Int.toNat a)) - 1))) : Nat) : Int) ≤ IntKind.i64.max)] ⟨(by (rw [bs_size, repS_size]; have hmx : IntKind.i64.max = 9223372036854775807 := rfl; omega)), trivial⟩ fun ac hS => ?_
         refine hS.ordC 14 169 #[.agg #[pt b 0, vi o_, vi z], vi i, .string ((bs (fun _ => u8 0) 1) ++ (repS (bs (fun _ => u8 0) 1) (Int.toNat ((1 * (2 ^ Int.toNat a)) - 1))))] (vw_Put b F m o_ z i ((bs (fun _ => u8 0) 1) ++ (repS (bs (fun _ => u8 0) 1) (Int.toNat ((1 * (2 ^ Int.toNat a)) - 1)))) _ (hS.mem.res 0) (by first | assumption | omega | (simp_all; done) | (simp_all; omega))) ?_
         rintro _ wd ⟨F10, rfl, hA, hF⟩
         refine ⟨vi (vptE m o_ z i ((bs (fun _ => u8 0) 1) ++ (repS (bs (fun _ => u8 0) 1) (Int.toNat ((1 * (2 ^ Int.toNat a)) - 1))))), rfl, ?_⟩
         replace hS := (hS.to (hS.mem.stepA 0 rfl hA hF)).put (d := 50) (v := vi (vptE m o_ z i ((bs (fun _ => u8 0) 1) ++ (repS (bs (fun _ => u8 0) 1) (Int.toNat ((1 * (2 ^ Int.toNat a)) - 1)))))) (by decide)
         clear hF
         refine hS.ordV (l := [0]) ?_
         refine St.ordF [0] [15] [] (rest := []) hS hap <| segF [(8, vi (vptE m o_ z i ((bs (fun _ => u8 0) 1) ++ (repS (bs (fun _ => u8 0) 1) (Int.toNat ((1 * (2 ^ Int.toNat a)) - 1))))))] [] trivial fun ac hS => ?_
         refine ord_nil ?_
         refine wp_ret ?_
         refine St.retC 0 hS (vi (vptE m o_ z i ((bs (fun _ => u8 0) 1) ++ (repS (bs (fun _ => u8 0) 1) (Int.toNat ((1 * (2 ^ Int.toNat a)) - 1)))))) [] trivial fun hw => ?_
         refine ⟨F10, retd (vint ?_), (res_eq (r := arR b F10 (vptM m o_ z i ((bs (fun _ => u8 0) 1) ++ (repS (bs (fun _ => u8 0) 1) (Int.toNat ((1 * (2 ^ Int.toNat a)) - 1)))))) (by first | exact congrArg _ hD.2 | exact congrArg _ ((congrArg (vptM m o_ z i) (tagS_0 hs0)).trans hD.2) | exact congrArg _ ((congrArg (vptM m o_ z i) (tagS_1 hs0)).trans hD.2)) (hw.res 0)), hw.frA⟩
         all_goals (first | exact hD.1 | exact (congrArg (vptE m o_ z i) (tagS_0 hs0)).trans hD.1 | exact (congrArg (vptE m o_ z i) (tagS_1 hs0)).trans hD.1)
        ·
         refine hS.ordC 12 170 #[.string (bs (fun _ => u8 0) 1), vi ((1 * (2 ^ Int.toNat a)) - 1)] (str_Repeat (bs (fun _ => u8 0) 1) ((1 * (2 ^ Int.toNat a)) - 1) _  (by (rw [bs_size]; omega))) ?_
         rintro _ wd ⟨rfl, hF⟩
         refine ⟨.string (repS (bs (fun _ => u8 0) 1) (Int.toNat ((1 * (2 ^ Int.toNat a)) - 1))), rfl, ?_⟩
         replace hS := (hS.to (hS.mem.keep0 hF)).put (d := 48) (v := .string (repS (bs (fun _ => u8 0) 1) (Int.toNat ((1 * (2 ^ Int.toNat a)) - 1)))) (by decide)
         clear hF
         refine hS.ordV (l := [0]) ?_
         refine ord_nil ?_
         refine wpT_lin ?_
         refine Runs1.ord (i := 5) ?_
         refine St.toStr hS (.tmp 40) 215 9 rfl rfl (by decide) Tryd.underlying215 Tryd.underlying5 Tryd.underlying9 (b := (ν18 0)) (off := 0) (k := 1) (cp := 1) (fun _ => u8 0) (Cells8.one (hS.mem.get 2 (ν18 0) (.cells [v8 0] 5)) (by omega)) fun ac hS => ?_
         refine hS.ordV (l := [0]) ?_
         refine St.ordF [10] [13] [37, 38] (rest := [(14, 0), (15, 1)]) hS hap <| segF [(49, .string ((bs (fun _ => u8 0) 1) ++ (repS (bs (fun _ => u8 0) 1) (Int.toNat ((1 * (2 ^ Int.toNat a)) - 1)))))] [.p (((ByteArray.size (bs (fun _ => u8 0) 1) + ByteArray.size (repS (bs (fun _ => u8 0) 1) (Int.toNat ((1 * (2 ^ Int.toNat a)) - 1))) : Nat) : Int) ≤ IntKind.i64.max)] ⟨(by (rw [bs_size, repS_size]; have hmx : IntKind.i64.max = 9223372036854775807 := rfl; omega)), trivial⟩ fun ac hS => ?_
         refine hS.ordC 14 169 #[.agg #[pt b 0, vi o_, vi z], vi i, .string ((bs (fun _ => u8 0) 1) ++ (repS (bs (fun _ => u8 0) 1) (Int.toNat ((1 * (2 ^ Int.toNat a)) - 1))))] (vw_Put b F m o_ z i ((bs (fun _ => u8 0) 1) ++ (repS (bs (fun _ => u8 0) 1) (Int.toNat ((1 * (2 ^ Int.toNat a)) - 1)))) _ (hS.mem.res 0) (by first | assumption | omega | (simp_all; done) | (simp_all; omega))) ?_
         rintro _ wd ⟨F11, rfl, hA, hF⟩
         refine ⟨vi (vptE m o_ z i ((bs (fun _ => u8 0) 1) ++ (repS (bs (fun _ => u8 0) 1) (Int.toNat ((1 * (2 ^ Int.toNat a)) - 1))))), rfl, ?_⟩
         replace hS := (hS.to (hS.mem.stepA 0 rfl hA hF)).put (d := 50) (v := vi (vptE m o_ z i ((bs (fun _ => u8 0) 1) ++ (repS (bs (fun _ => u8 0) 1) (Int.toNat ((1 * (2 ^ Int.toNat a)) - 1)))))) (by decide)
         clear hF
         refine hS.ordV (l := [0]) ?_
         refine St.ordF [0] [15] [] (rest := []) hS hap <| segF [(8, vi (vptE m o_ z i ((bs (fun _ => u8 0) 1) ++ (repS (bs (fun _ => u8 0) 1) (Int.toNat ((1 * (2 ^ Int.toNat a)) - 1))))))] [] trivial fun ac hS => ?_
         refine ord_nil ?_
         refine wp_ret ?_
         refine St.retC 0 hS (vi (vptE m o_ z i ((bs (fun _ => u8 0) 1) ++ (repS (bs (fun _ => u8 0) 1) (Int.toNat ((1 * (2 ^ Int.toNat a)) - 1)))))) [] trivial fun hw => ?_
         refine ⟨F11, retd (vint ?_), (res_eq (r := arR b F11 (vptM m o_ z i ((bs (fun _ => u8 0) 1) ++ (repS (bs (fun _ => u8 0) 1) (Int.toNat ((1 * (2 ^ Int.toNat a)) - 1)))))) (by first | exact congrArg _ hD.2 | exact congrArg _ ((congrArg (vptM m o_ z i) (tagS_0 hs0)).trans hD.2) | exact congrArg _ ((congrArg (vptM m o_ z i) (tagS_1 hs0)).trans hD.2)) (hw.res 0)), hw.frA⟩
         all_goals (first | exact hD.1 | exact (congrArg (vptE m o_ z i) (tagS_0 hs0)).trans hD.1 | exact (congrArg (vptE m o_ z i) (tagS_1 hs0)).trans hD.1)
      ·
       refine Runs1.ord (i := 8) ?_
       refine St.toStr hS (.tmp 43) 215 9 rfl rfl (by decide) Tryd.underlying215 Tryd.underlying5 Tryd.underlying9 (b := (ν17 0)) (off := 0) (k := 1) (cp := 1) (fun _ => u8 0) (Cells8.one (hS.mem.get 1 (ν17 0) (.cells [v8 0] 5)) (by omega)) fun ac hS => ?_
       refine hS.ordV (l := [0]) ?_
       refine ord_nil ?_
       refine wpT_two ?_
       refine ord_nil ?_
       refine ⟨?_, ?_⟩
       ·
        refine St.ord1 4 [0] [37, 38, 44, 47] [0] hS rfl fun ν19 => seg [(40, sc (ν19 0) 0 1 1)] [(0, none), (1, none), (2, some ((ν19 0), .cells [v8 0] 5))] [] trivial ⟨by as_aux_lemma => kernel_rfl, fun ac wd hS => ?_⟩
        refine ord_nil ?_
        refine wpT_two ?_
        refine ord_nil ?_
        refine ⟨?_, ?_⟩
        ·
         refine Runs1.ord (i := 5) ?_
         refine St.toStr hS (.tmp 40) 215 9 rfl rfl (by decide) Tryd.underlying215 Tryd.underlying5 Tryd.underlying9 (b := (ν19 0)) (off := 0) (k := 1) (cp := 1) (fun _ => u8 0) (Cells8.one (hS.mem.get 2 (ν19 0) (.cells [v8 0] 5)) (by omega)) fun ac hS => ?_
         refine hS.ordV (l := [0]) ?_
         refine ord_nil ?_
         refine wpT_lin ?_
         refine hS.ordC 12 170 #[.string (bs (fun _ => u8 0) 1), vi ((1 * (2 ^ Int.toNat a)) - 1)] (str_Repeat (bs (fun _ => u8 0) 1) ((1 * (2 ^ Int.toNat a)) - 1) _  (by (rw [bs_size]; omega))) ?_
         rintro _ wd ⟨rfl, hF⟩
         refine ⟨.string (repS (bs (fun _ => u8 0) 1) (Int.toNat ((1 * (2 ^ Int.toNat a)) - 1))), rfl, ?_⟩
         replace hS := (hS.to (hS.mem.keep0 hF)).put (d := 48) (v := .string (repS (bs (fun _ => u8 0) 1) (Int.toNat ((1 * (2 ^ Int.toNat a)) - 1)))) (by decide)
         clear hF
         refine hS.ordV (l := [0]) ?_
         refine St.ordF [10] [13] [37, 38] (rest := [(14, 0), (15, 1)]) hS hap <| segF [(49, .string ((bs (fun _ => u8 0) 1) ++ (repS (bs (fun _ => u8 0) 1) (Int.toNat ((1 * (2 ^ Int.toNat a)) - 1)))))] [.p (((ByteArray.size (bs (fun _ => u8 0) 1) + ByteArray.size (repS (bs (fun _ => u8 0) 1) (Int.toNat ((1 * (2 ^ Int.toNat a)) - 1))) : Nat) : Int) ≤ IntKind.i64.max)] ⟨(by (rw [bs_size, repS_size]; have hmx : IntKind.i64.max = 9223372036854775807 := rfl; omega)), trivial⟩ fun ac hS => ?_
         refine hS.ordC 14 169 #[.agg #[pt b 0, vi o_, vi z], vi i, .string ((bs (fun _ => u8 0) 1) ++ (repS (bs (fun _ => u8 0) 1) (Int.toNat ((1 * (2 ^ Int.toNat a)) - 1))))] (vw_Put b F m o_ z i ((bs (fun _ => u8 0) 1) ++ (repS (bs (fun _ => u8 0) 1) (Int.toNat ((1 * (2 ^ Int.toNat a)) - 1)))) _ (hS.mem.res 0) (by first | assumption | omega | (simp_all; done) | (simp_all; omega))) ?_
         rintro _ wd ⟨F12, rfl, hA, hF⟩
         refine ⟨vi (vptE m o_ z i ((bs (fun _ => u8 0) 1) ++ (repS (bs (fun _ => u8 0) 1) (Int.toNat ((1 * (2 ^ Int.toNat a)) - 1))))), rfl, ?_⟩
         replace hS := (hS.to (hS.mem.stepA 0 rfl hA hF)).put (d := 50) (v := vi (vptE m o_ z i ((bs (fun _ => u8 0) 1) ++ (repS (bs (fun _ => u8 0) 1) (Int.toNat ((1 * (2 ^ Int.toNat a)) - 1)))))) (by decide)
         clear hF
         refine hS.ordV (l := [0]) ?_
         refine St.ordF [0] [15] [] (rest := []) hS hap <| segF [(8, vi (vptE m o_ z i ((bs (fun _ => u8 0) 1) ++ (repS (bs (fun _ => u8 0) 1) (Int.toNat ((1 * (2 ^ Int.toNat a)) - 1))))))] [] trivial fun ac hS => ?_
         refine ord_nil ?_
         refine wp_ret ?_
         refine St.retC 0 hS (vi (vptE m o_ z i ((bs (fun _ => u8 0) 1) ++ (repS (bs (fun _ => u8 0) 1) (Int.toNat ((1 * (2 ^ Int.toNat a)) - 1)))))) [] trivial fun hw => ?_
         refine ⟨F12, retd (vint ?_), (res_eq (r := arR b F12 (vptM m o_ z i ((bs (fun _ => u8 0) 1) ++ (repS (bs (fun _ => u8 0) 1) (Int.toNat ((1 * (2 ^ Int.toNat a)) - 1)))))) (by first | exact congrArg _ hD.2 | exact congrArg _ ((congrArg (vptM m o_ z i) (tagS_0 hs0)).trans hD.2) | exact congrArg _ ((congrArg (vptM m o_ z i) (tagS_1 hs0)).trans hD.2)) (hw.res 0)), hw.frA⟩
         all_goals (first | exact hD.1 | exact (congrArg (vptE m o_ z i) (tagS_0 hs0)).trans hD.1 | exact (congrArg (vptE m o_ z i) (tagS_1 hs0)).trans hD.1)
        ·
         refine hS.ordC 12 170 #[.string (bs (fun _ => u8 0) 1), vi ((1 * (2 ^ Int.toNat a)) - 1)] (str_Repeat (bs (fun _ => u8 0) 1) ((1 * (2 ^ Int.toNat a)) - 1) _  (by (rw [bs_size]; omega))) ?_
         rintro _ wd ⟨rfl, hF⟩
         refine ⟨.string (repS (bs (fun _ => u8 0) 1) (Int.toNat ((1 * (2 ^ Int.toNat a)) - 1))), rfl, ?_⟩
         replace hS := (hS.to (hS.mem.keep0 hF)).put (d := 48) (v := .string (repS (bs (fun _ => u8 0) 1) (Int.toNat ((1 * (2 ^ Int.toNat a)) - 1)))) (by decide)
         clear hF
         refine hS.ordV (l := [0]) ?_
         refine ord_nil ?_
         refine wpT_lin ?_
         refine Runs1.ord (i := 5) ?_
         refine St.toStr hS (.tmp 40) 215 9 rfl rfl (by decide) Tryd.underlying215 Tryd.underlying5 Tryd.underlying9 (b := (ν19 0)) (off := 0) (k := 1) (cp := 1) (fun _ => u8 0) (Cells8.one (hS.mem.get 2 (ν19 0) (.cells [v8 0] 5)) (by omega)) fun ac hS => ?_
         refine hS.ordV (l := [0]) ?_
         refine St.ordF [10] [13] [37, 38] (rest := [(14, 0), (15, 1)]) hS hap <| segF [(49, .string ((bs (fun _ => u8 0) 1) ++ (repS (bs (fun _ => u8 0) 1) (Int.toNat ((1 * (2 ^ Int.toNat a)) - 1)))))] [.p (((ByteArray.size (bs (fun _ => u8 0) 1) + ByteArray.size (repS (bs (fun _ => u8 0) 1) (Int.toNat ((1 * (2 ^ Int.toNat a)) - 1))) : Nat) : Int) ≤ IntKind.i64.max)] ⟨(by (rw [bs_size, repS_size]; have hmx : IntKind.i64.max = 9223372036854775807 := rfl; omega)), trivial⟩ fun ac hS => ?_
         refine hS.ordC 14 169 #[.agg #[pt b 0, vi o_, vi z], vi i, .string ((bs (fun _ => u8 0) 1) ++ (repS (bs (fun _ => u8 0) 1) (Int.toNat ((1 * (2 ^ Int.toNat a)) - 1))))] (vw_Put b F m o_ z i ((bs (fun _ => u8 0) 1) ++ (repS (bs (fun _ => u8 0) 1) (Int.toNat ((1 * (2 ^ Int.toNat a)) - 1)))) _ (hS.mem.res 0) (by first | assumption | omega | (simp_all; done) | (simp_all; omega))) ?_
         rintro _ wd ⟨F13, rfl, hA, hF⟩
         refine ⟨vi (vptE m o_ z i ((bs (fun _ => u8 0) 1) ++ (repS (bs (fun _ => u8 0) 1) (Int.toNat ((1 * (2 ^ Int.toNat a)) - 1))))), rfl, ?_⟩
         replace hS := (hS.to (hS.mem.stepA 0 rfl hA hF)).put (d := 50) (v := vi (vptE m o_ z i ((bs (fun _ => u8 0) 1) ++ (repS (bs (fun _ => u8 0) 1) (Int.toNat ((1 * (2 ^ Int.toNat a)) - 1)))))) (by decide)
         clear hF
         refine hS.ordV (l := [0]) ?_
         refine St.ordF [0] [15] [] (rest := []) hS hap <| segF [(8, vi (vptE m o_ z i ((bs (fun _ => u8 0) 1) ++ (repS (bs (fun _ => u8 0) 1) (Int.toNat ((1 * (2 ^ Int.toNat a)) - 1))))))] [] trivial fun ac hS => ?_
         refine ord_nil ?_
         refine wp_ret ?_
         refine St.retC 0 hS (vi (vptE m o_ z i ((bs (fun _ => u8 0) 1) ++ (repS (bs (fun _ => u8 0) 1) (Int.toNat ((1 * (2 ^ Int.toNat a)) - 1)))))) [] trivial fun hw => ?_
         refine ⟨F13, retd (vint ?_), (res_eq (r := arR b F13 (vptM m o_ z i ((bs (fun _ => u8 0) 1) ++ (repS (bs (fun _ => u8 0) 1) (Int.toNat ((1 * (2 ^ Int.toNat a)) - 1)))))) (by first | exact congrArg _ hD.2 | exact congrArg _ ((congrArg (vptM m o_ z i) (tagS_0 hs0)).trans hD.2) | exact congrArg _ ((congrArg (vptM m o_ z i) (tagS_1 hs0)).trans hD.2)) (hw.res 0)), hw.frA⟩
         all_goals (first | exact hD.1 | exact (congrArg (vptE m o_ z i) (tagS_0 hs0)).trans hD.1 | exact (congrArg (vptE m o_ z i) (tagS_1 hs0)).trans hD.1)
       ·
        refine hS.ordC 12 170 #[.string (bs (fun _ => u8 0) 1), vi ((1 * (2 ^ Int.toNat a)) - 1)] (str_Repeat (bs (fun _ => u8 0) 1) ((1 * (2 ^ Int.toNat a)) - 1) _  (by (rw [bs_size]; omega))) ?_
        rintro _ wd ⟨rfl, hF⟩
        refine ⟨.string (repS (bs (fun _ => u8 0) 1) (Int.toNat ((1 * (2 ^ Int.toNat a)) - 1))), rfl, ?_⟩
        replace hS := (hS.to (hS.mem.keep0 hF)).put (d := 48) (v := .string (repS (bs (fun _ => u8 0) 1) (Int.toNat ((1 * (2 ^ Int.toNat a)) - 1)))) (by decide)
        clear hF
        refine hS.ordV (l := [0]) ?_
        refine ord_nil ?_
        refine wpT_lin ?_
        refine St.ord1 4 [0] [37, 38, 48] [0] hS rfl fun ν20 => seg [(40, sc (ν20 0) 0 1 1)] [(0, none), (1, none), (2, some ((ν20 0), .cells [v8 0] 5))] [] trivial ⟨by as_aux_lemma => kernel_rfl, fun ac wd hS => ?_⟩
        refine Runs1.ord (i := 5) ?_
        refine St.toStr hS (.tmp 40) 215 9 rfl rfl (by decide) Tryd.underlying215 Tryd.underlying5 Tryd.underlying9 (b := (ν20 0)) (off := 0) (k := 1) (cp := 1) (fun _ => u8 0) (Cells8.one (hS.mem.get 2 (ν20 0) (.cells [v8 0] 5)) (by omega)) fun ac hS => ?_
        refine hS.ordV (l := [0]) ?_
        refine St.ordF [10] [13] [37, 38] (rest := [(14, 0), (15, 1)]) hS hap <| segF [(49, .string ((bs (fun _ => u8 0) 1) ++ (repS (bs (fun _ => u8 0) 1) (Int.toNat ((1 * (2 ^ Int.toNat a)) - 1)))))] [.p (((ByteArray.size (bs (fun _ => u8 0) 1) + ByteArray.size (repS (bs (fun _ => u8 0) 1) (Int.toNat ((1 * (2 ^ Int.toNat a)) - 1))) : Nat) : Int) ≤ IntKind.i64.max)] ⟨(by (rw [bs_size, repS_size]; have hmx : IntKind.i64.max = 9223372036854775807 := rfl; omega)), trivial⟩ fun ac hS => ?_
        refine hS.ordC 14 169 #[.agg #[pt b 0, vi o_, vi z], vi i, .string ((bs (fun _ => u8 0) 1) ++ (repS (bs (fun _ => u8 0) 1) (Int.toNat ((1 * (2 ^ Int.toNat a)) - 1))))] (vw_Put b F m o_ z i ((bs (fun _ => u8 0) 1) ++ (repS (bs (fun _ => u8 0) 1) (Int.toNat ((1 * (2 ^ Int.toNat a)) - 1)))) _ (hS.mem.res 0) (by first | assumption | omega | (simp_all; done) | (simp_all; omega))) ?_
        rintro _ wd ⟨F14, rfl, hA, hF⟩
        refine ⟨vi (vptE m o_ z i ((bs (fun _ => u8 0) 1) ++ (repS (bs (fun _ => u8 0) 1) (Int.toNat ((1 * (2 ^ Int.toNat a)) - 1))))), rfl, ?_⟩
        replace hS := (hS.to (hS.mem.stepA 0 rfl hA hF)).put (d := 50) (v := vi (vptE m o_ z i ((bs (fun _ => u8 0) 1) ++ (repS (bs (fun _ => u8 0) 1) (Int.toNat ((1 * (2 ^ Int.toNat a)) - 1)))))) (by decide)
        clear hF
        refine hS.ordV (l := [0]) ?_
        refine St.ordF [0] [15] [] (rest := []) hS hap <| segF [(8, vi (vptE m o_ z i ((bs (fun _ => u8 0) 1) ++ (repS (bs (fun _ => u8 0) 1) (Int.toNat ((1 * (2 ^ Int.toNat a)) - 1))))))] [] trivial fun ac hS => ?_
        refine ord_nil ?_
        refine wp_ret ?_
        refine St.retC 0 hS (vi (vptE m o_ z i ((bs (fun _ => u8 0) 1) ++ (repS (bs (fun _ => u8 0) 1) (Int.toNat ((1 * (2 ^ Int.toNat a)) - 1)))))) [] trivial fun hw => ?_
        refine ⟨F14, retd (vint ?_), (res_eq (r := arR b F14 (vptM m o_ z i ((bs (fun _ => u8 0) 1) ++ (repS (bs (fun _ => u8 0) 1) (Int.toNat ((1 * (2 ^ Int.toNat a)) - 1)))))) (by first | exact congrArg _ hD.2 | exact congrArg _ ((congrArg (vptM m o_ z i) (tagS_0 hs0)).trans hD.2) | exact congrArg _ ((congrArg (vptM m o_ z i) (tagS_1 hs0)).trans hD.2)) (hw.res 0)), hw.frA⟩
        all_goals (first | exact hD.1 | exact (congrArg (vptE m o_ z i) (tagS_0 hs0)).trans hD.1 | exact (congrArg (vptE m o_ z i) (tagS_1 hs0)).trans hD.1)
    ·
     have hs0 : s_ ≠ 0 := hb4
     replace hS := hS.fix 35 (vb false) (congrArg Value.bool hb4o)
     refine wp_skip ?_
     refine pop_then ?_
     refine St.ordBeginTS [(0, 1), (1, 1), (2, 1), (3, 1), (6, 1), (9, 1), (10, 1), (11, 1), (4, 0), (5, 0), (7, 0), (8, 0), (12, 0), (13, 1), (14, 0), (15, 1)] (.two [(0, 1), (1, 1), (2, 1), (3, 1), (6, 1), (9, 1), (10, 1), (11, 1)] 4 (.two [] 5 (.lin [(7, 0), (8, 0), (12, 0), (13, 1), (14, 0), (15, 1)]) 7 (.two [] 5 (.lin [(8, 0), (12, 0), (13, 1), (14, 0), (15, 1)]) 8 (.two [] 5 (.lin [(12, 0), (13, 1), (14, 0), (15, 1)]) 12 (.lin [(5, 0), (13, 1), (14, 0), (15, 1)])))) 7 (.two [] 4 (.two [] 5 (.lin [(8, 0), (12, 0), (13, 1), (14, 0), (15, 1)]) 8 (.two [] 5 (.lin [(12, 0), (13, 1), (14, 0), (15, 1)]) 12 (.lin [(5, 0), (13, 1), (14, 0), (15, 1)]))) 8 (.two [] 4 (.two [] 5 (.lin [(12, 0), (13, 1), (14, 0), (15, 1)]) 12 (.lin [(5, 0), (13, 1), (14, 0), (15, 1)])) 12 (.lin [(4, 0), (5, 0), (13, 1), (14, 0), (15, 1)])))) [((ν1 0), .cells [pt b 0, vi o_, vi z] 184)] [0] hS fun wd hS => ?_
     have hap := hS.mem.pairs (Hf := [((ν1 0), .cells [pt b 0, vi o_, vi z] 184)]) (l := [0])
     refine wpT_two ?_
     refine St.ordF [0, 0, 0, 0, 0, 0, 20, 20] [0, 1, 2, 3, 6, 9, 10, 11] [] (rest := []) hS hap <| segF [(37, .agg #[pt b 0, vi o_, vi z]), (38, vi i), (39, v8 (s_ + 4 * a)), (42, v8 (1 + 4 * 0)), (47, vi ((1 * (2 ^ Int.toNat a)) - 1))] [.p (fit .i64 ((1 * (2 ^ Int.toNat a)) - 1)), .p (0 ≤ a ∧ IntKind.i64.wrap (1 * 2 ^ (min (Int.toNat a) 64)) = (1 * (2 ^ Int.toNat a))), .e (ν1 0), .e (ν1 0), .e (ν1 0)] ⟨fit_i64 (by omega), shl2_i64 (by omega) (by omega) (by exact pgsN_sh hy2), trivial⟩ fun ac hS => ?_
     refine ord_nil ?_
     refine ⟨?_, ?_⟩
     ·
      refine St.ord1 4 [0] [37, 38, 42, 47] [0] hS rfl fun ν21 => seg [(40, sc (ν21 0) 0 1 1)] [(0, none), (1, some ((ν21 0), .cells [v8 (s_ + 4 * a)] 5))] [] trivial ⟨by as_aux_lemma => kernel_rfl, fun ac wd hS => ?_⟩
      refine ord_nil ?_
      refine wpT_two ?_
      refine ord_nil ?_
      refine ⟨?_, ?_⟩
      ·
       refine Runs1.ord (i := 5) ?_
       refine St.toStr hS (.tmp 40) 215 9 rfl rfl (by decide) Tryd.underlying215 Tryd.underlying5 Tryd.underlying9 (b := (ν21 0)) (off := 0) (k := 1) (cp := 1) (fun _ => u8 (s_ + 4 * a)) (Cells8.one (hS.mem.get 1 (ν21 0) (.cells [v8 (s_ + 4 * a)] 5)) (by omega)) fun ac hS => ?_
       refine hS.ordV (l := [0]) ?_
       refine ord_nil ?_
       refine wpT_lin ?_
       refine St.ord1 7 [0] [37, 38, 41, 47] [0] hS rfl fun ν22 => seg [(43, sc (ν22 0) 0 1 1)] [(0, none), (1, none), (2, some ((ν22 0), .cells [v8 (1 + 4 * 0)] 5))] [] trivial ⟨by as_aux_lemma => kernel_rfl, fun ac wd hS => ?_⟩
       refine Runs1.ord (i := 8) ?_
       refine St.toStr hS (.tmp 43) 215 9 rfl rfl (by decide) Tryd.underlying215 Tryd.underlying5 Tryd.underlying9 (b := (ν22 0)) (off := 0) (k := 1) (cp := 1) (fun _ => u8 (1 + 4 * 0)) (Cells8.one (hS.mem.get 2 (ν22 0) (.cells [v8 (1 + 4 * 0)] 5)) (by omega)) fun ac hS => ?_
       refine hS.ordV (l := [0]) ?_
       refine hS.ordC 12 170 #[.string (bs (fun _ => u8 (1 + 4 * 0)) 1), vi ((1 * (2 ^ Int.toNat a)) - 1)] (str_Repeat (bs (fun _ => u8 (1 + 4 * 0)) 1) ((1 * (2 ^ Int.toNat a)) - 1) _  (by (rw [bs_size]; omega))) ?_
       rintro _ wd ⟨rfl, hF⟩
       refine ⟨.string (repS (bs (fun _ => u8 (1 + 4 * 0)) 1) (Int.toNat ((1 * (2 ^ Int.toNat a)) - 1))), rfl, ?_⟩
       replace hS := (hS.to (hS.mem.keep0 hF)).put (d := 48) (v := .string (repS (bs (fun _ => u8 (1 + 4 * 0)) 1) (Int.toNat ((1 * (2 ^ Int.toNat a)) - 1)))) (by decide)
       clear hF
       refine hS.ordV (l := [0]) ?_
       refine St.ordF [10] [13] [37, 38] (rest := [(14, 0), (15, 1)]) hS hap <| segF [(49, .string ((bs (fun _ => u8 (s_ + 4 * a)) 1) ++ (repS (bs (fun _ => u8 (1 + 4 * 0)) 1) (Int.toNat ((1 * (2 ^ Int.toNat a)) - 1)))))] [.p (((ByteArray.size (bs (fun _ => u8 (s_ + 4 * a)) 1) + ByteArray.size (repS (bs (fun _ => u8 (1 + 4 * 0)) 1) (Int.toNat ((1 * (2 ^ Int.toNat a)) - 1))) : Nat) : Int) ≤ IntKind.i64.max)] ⟨(by (rw [bs_size, repS_size]; have hmx : IntKind.i64.max = 9223372036854775807 := rfl; omega)), trivial⟩ fun ac hS => ?_
       refine hS.ordC 14 169 #[.agg #[pt b 0, vi o_, vi z], vi i, .string ((bs (fun _ => u8 (s_ + 4 * a)) 1) ++ (repS (bs (fun _ => u8 (1 + 4 * 0)) 1) (Int.toNat ((1 * (2 ^ Int.toNat a)) - 1))))] (vw_Put b F m o_ z i ((bs (fun _ => u8 (s_ + 4 * a)) 1) ++ (repS (bs (fun _ => u8 (1 + 4 * 0)) 1) (Int.toNat ((1 * (2 ^ Int.toNat a)) - 1)))) _ (hS.mem.res 0) (by first | assumption | omega | (simp_all; done) | (simp_all; omega))) ?_
       rintro _ wd ⟨F15, rfl, hA, hF⟩
       refine ⟨vi (vptE m o_ z i ((bs (fun _ => u8 (s_ + 4 * a)) 1) ++ (repS (bs (fun _ => u8 (1 + 4 * 0)) 1) (Int.toNat ((1 * (2 ^ Int.toNat a)) - 1))))), rfl, ?_⟩
       replace hS := (hS.to (hS.mem.stepA 0 rfl hA hF)).put (d := 50) (v := vi (vptE m o_ z i ((bs (fun _ => u8 (s_ + 4 * a)) 1) ++ (repS (bs (fun _ => u8 (1 + 4 * 0)) 1) (Int.toNat ((1 * (2 ^ Int.toNat a)) - 1)))))) (by decide)
       clear hF
       refine hS.ordV (l := [0]) ?_
       refine St.ordF [0] [15] [] (rest := []) hS hap <| segF [(8, vi (vptE m o_ z i ((bs (fun _ => u8 (s_ + 4 * a)) 1) ++ (repS (bs (fun _ => u8 (1 + 4 * 0)) 1) (Int.toNat ((1 * (2 ^ Int.toNat a)) - 1))))))] [] trivial fun ac hS => ?_
       refine ord_nil ?_
       refine wp_ret ?_
       refine St.retC 0 hS (vi (vptE m o_ z i ((bs (fun _ => u8 (s_ + 4 * a)) 1) ++ (repS (bs (fun _ => u8 (1 + 4 * 0)) 1) (Int.toNat ((1 * (2 ^ Int.toNat a)) - 1)))))) [] trivial fun hw => ?_
       refine ⟨F15, retd (vint ?_), (res_eq (r := arR b F15 (vptM m o_ z i ((bs (fun _ => u8 (s_ + 4 * a)) 1) ++ (repS (bs (fun _ => u8 (1 + 4 * 0)) 1) (Int.toNat ((1 * (2 ^ Int.toNat a)) - 1)))))) (by first | exact congrArg _ hD.2 | exact congrArg _ ((congrArg (vptM m o_ z i) (tagS_0 hs0)).trans hD.2) | exact congrArg _ ((congrArg (vptM m o_ z i) (tagS_1 hs0)).trans hD.2)) (hw.res 0)), hw.frA⟩
       all_goals (first | exact hD.1 | exact (congrArg (vptE m o_ z i) (tagS_0 hs0)).trans hD.1 | exact (congrArg (vptE m o_ z i) (tagS_1 hs0)).trans hD.1)
      ·
       refine St.ord1 7 [0] [37, 38, 40, 47] [0] hS rfl fun ν23 => seg [(43, sc (ν23 0) 0 1 1)] [(0, none), (1, none), (2, some ((ν23 0), .cells [v8 (1 + 4 * 0)] 5))] [] trivial ⟨by as_aux_lemma => kernel_rfl, fun ac wd hS => ?_⟩
       refine ord_nil ?_
       refine wpT_two ?_
       refine ord_nil ?_
       refine ⟨?_, ?_⟩
       ·
        refine Runs1.ord (i := 5) ?_
        refine St.toStr hS (.tmp 40) 215 9 rfl rfl (by decide) Tryd.underlying215 Tryd.underlying5 Tryd.underlying9 (b := (ν21 0)) (off := 0) (k := 1) (cp := 1) (fun _ => u8 (s_ + 4 * a)) (Cells8.one (hS.mem.get 1 (ν21 0) (.cells [v8 (s_ + 4 * a)] 5)) (by omega)) fun ac hS => ?_
        refine hS.ordV (l := [0]) ?_
        refine ord_nil ?_
        refine wpT_lin ?_
        refine Runs1.ord (i := 8) ?_
        refine St.toStr hS (.tmp 43) 215 9 rfl rfl (by decide) Tryd.underlying215 Tryd.underlying5 Tryd.underlying9 (b := (ν23 0)) (off := 0) (k := 1) (cp := 1) (fun _ => u8 (1 + 4 * 0)) (Cells8.one (hS.mem.get 2 (ν23 0) (.cells [v8 (1 + 4 * 0)] 5)) (by omega)) fun ac hS => ?_
        refine hS.ordV (l := [0]) ?_
        refine hS.ordC 12 170 #[.string (bs (fun _ => u8 (1 + 4 * 0)) 1), vi ((1 * (2 ^ Int.toNat a)) - 1)] (str_Repeat (bs (fun _ => u8 (1 + 4 * 0)) 1) ((1 * (2 ^ Int.toNat a)) - 1) _  (by (rw [bs_size]; omega))) ?_
        rintro _ wd ⟨rfl, hF⟩
        refine ⟨.string (repS (bs (fun _ => u8 (1 + 4 * 0)) 1) (Int.toNat ((1 * (2 ^ Int.toNat a)) - 1))), rfl, ?_⟩
        replace hS := (hS.to (hS.mem.keep0 hF)).put (d := 48) (v := .string (repS (bs (fun _ => u8 (1 + 4 * 0)) 1) (Int.toNat ((1 * (2 ^ Int.toNat a)) - 1)))) (by decide)
        clear hF
        refine hS.ordV (l := [0]) ?_
        refine St.ordF [10] [13] [37, 38] (rest := [(14, 0), (15, 1)]) hS hap <| segF [(49, .string ((bs (fun _ => u8 (s_ + 4 * a)) 1) ++ (repS (bs (fun _ => u8 (1 + 4 * 0)) 1) (Int.toNat ((1 * (2 ^ Int.toNat a)) - 1)))))] [.p (((ByteArray.size (bs (fun _ => u8 (s_ + 4 * a)) 1) + ByteArray.size (repS (bs (fun _ => u8 (1 + 4 * 0)) 1) (Int.toNat ((1 * (2 ^ Int.toNat a)) - 1))) : Nat) : Int) ≤ IntKind.i64.max)] ⟨(by (rw [bs_size, repS_size]; have hmx : IntKind.i64.max = 9223372036854775807 := rfl; omega)), trivial⟩ fun ac hS => ?_
        refine hS.ordC 14 169 #[.agg #[pt b 0, vi o_, vi z], vi i, .string ((bs (fun _ => u8 (s_ + 4 * a)) 1) ++ (repS (bs (fun _ => u8 (1 + 4 * 0)) 1) (Int.toNat ((1 * (2 ^ Int.toNat a)) - 1))))] (vw_Put b F m o_ z i ((bs (fun _ => u8 (s_ + 4 * a)) 1) ++ (repS (bs (fun _ => u8 (1 + 4 * 0)) 1) (Int.toNat ((1 * (2 ^ Int.toNat a)) - 1)))) _ (hS.mem.res 0) (by first | assumption | omega | (simp_all; done) | (simp_all; omega))) ?_
        rintro _ wd ⟨F16, rfl, hA, hF⟩
        refine ⟨vi (vptE m o_ z i ((bs (fun _ => u8 (s_ + 4 * a)) 1) ++ (repS (bs (fun _ => u8 (1 + 4 * 0)) 1) (Int.toNat ((1 * (2 ^ Int.toNat a)) - 1))))), rfl, ?_⟩
        replace hS := (hS.to (hS.mem.stepA 0 rfl hA hF)).put (d := 50) (v := vi (vptE m o_ z i ((bs (fun _ => u8 (s_ + 4 * a)) 1) ++ (repS (bs (fun _ => u8 (1 + 4 * 0)) 1) (Int.toNat ((1 * (2 ^ Int.toNat a)) - 1)))))) (by decide)
        clear hF
        refine hS.ordV (l := [0]) ?_
        refine St.ordF [0] [15] [] (rest := []) hS hap <| segF [(8, vi (vptE m o_ z i ((bs (fun _ => u8 (s_ + 4 * a)) 1) ++ (repS (bs (fun _ => u8 (1 + 4 * 0)) 1) (Int.toNat ((1 * (2 ^ Int.toNat a)) - 1))))))] [] trivial fun ac hS => ?_
        refine ord_nil ?_
        refine wp_ret ?_
        refine St.retC 0 hS (vi (vptE m o_ z i ((bs (fun _ => u8 (s_ + 4 * a)) 1) ++ (repS (bs (fun _ => u8 (1 + 4 * 0)) 1) (Int.toNat ((1 * (2 ^ Int.toNat a)) - 1)))))) [] trivial fun hw => ?_
        refine ⟨F16, retd (vint ?_), (res_eq (r := arR b F16 (vptM m o_ z i ((bs (fun _ => u8 (s_ + 4 * a)) 1) ++ (repS (bs (fun _ => u8 (1 + 4 * 0)) 1) (Int.toNat ((1 * (2 ^ Int.toNat a)) - 1)))))) (by first | exact congrArg _ hD.2 | exact congrArg _ ((congrArg (vptM m o_ z i) (tagS_0 hs0)).trans hD.2) | exact congrArg _ ((congrArg (vptM m o_ z i) (tagS_1 hs0)).trans hD.2)) (hw.res 0)), hw.frA⟩
        all_goals (first | exact hD.1 | exact (congrArg (vptE m o_ z i) (tagS_0 hs0)).trans hD.1 | exact (congrArg (vptE m o_ z i) (tagS_1 hs0)).trans hD.1)
       ·
        refine Runs1.ord (i := 8) ?_
        refine St.toStr hS (.tmp 43) 215 9 rfl rfl (by decide) Tryd.underlying215 Tryd.underlying5 Tryd.underlying9 (b := (ν23 0)) (off := 0) (k := 1) (cp := 1) (fun _ => u8 (1 + 4 * 0)) (Cells8.one (hS.mem.get 2 (ν23 0) (.cells [v8 (1 + 4 * 0)] 5)) (by omega)) fun ac hS => ?_
        refine hS.ordV (l := [0]) ?_
        refine ord_nil ?_
        refine wpT_two ?_
        refine ord_nil ?_
        refine ⟨?_, ?_⟩
        ·
         refine Runs1.ord (i := 5) ?_
         refine St.toStr hS (.tmp 40) 215 9 rfl rfl (by decide) Tryd.underlying215 Tryd.underlying5 Tryd.underlying9 (b := (ν21 0)) (off := 0) (k := 1) (cp := 1) (fun _ => u8 (s_ + 4 * a)) (Cells8.one (hS.mem.get 1 (ν21 0) (.cells [v8 (s_ + 4 * a)] 5)) (by omega)) fun ac hS => ?_
         refine hS.ordV (l := [0]) ?_
         refine ord_nil ?_
         refine wpT_lin ?_
         refine hS.ordC 12 170 #[.string (bs (fun _ => u8 (1 + 4 * 0)) 1), vi ((1 * (2 ^ Int.toNat a)) - 1)] (str_Repeat (bs (fun _ => u8 (1 + 4 * 0)) 1) ((1 * (2 ^ Int.toNat a)) - 1) _  (by (rw [bs_size]; omega))) ?_
         rintro _ wd ⟨rfl, hF⟩
         refine ⟨.string (repS (bs (fun _ => u8 (1 + 4 * 0)) 1) (Int.toNat ((1 * (2 ^ Int.toNat a)) - 1))), rfl, ?_⟩
         replace hS := (hS.to (hS.mem.keep0 hF)).put (d := 48) (v := .string (repS (bs (fun _ => u8 (1 + 4 * 0)) 1) (Int.toNat ((1 * (2 ^ Int.toNat a)) - 1)))) (by decide)
         clear hF
         refine hS.ordV (l := [0]) ?_
         refine St.ordF [10] [13] [37, 38] (rest := [(14, 0), (15, 1)]) hS hap <| segF [(49, .string ((bs (fun _ => u8 (s_ + 4 * a)) 1) ++ (repS (bs (fun _ => u8 (1 + 4 * 0)) 1) (Int.toNat ((1 * (2 ^ Int.toNat a)) - 1)))))] [.p (((ByteArray.size (bs (fun _ => u8 (s_ + 4 * a)) 1) + ByteArray.size (repS (bs (fun _ => u8 (1 + 4 * 0)) 1) (Int.toNat ((1 * (2 ^ Int.toNat a)) - 1))) : Nat) : Int) ≤ IntKind.i64.max)] ⟨(by (rw [bs_size, repS_size]; have hmx : IntKind.i64.max = 9223372036854775807 := rfl; omega)), trivial⟩ fun ac hS => ?_
         refine hS.ordC 14 169 #[.agg #[pt b 0, vi o_, vi z], vi i, .string ((bs (fun _ => u8 (s_ + 4 * a)) 1) ++ (repS (bs (fun _ => u8 (1 + 4 * 0)) 1) (Int.toNat ((1 * (2 ^ Int.toNat a)) - 1))))] (vw_Put b F m o_ z i ((bs (fun _ => u8 (s_ + 4 * a)) 1) ++ (repS (bs (fun _ => u8 (1 + 4 * 0)) 1) (Int.toNat ((1 * (2 ^ Int.toNat a)) - 1)))) _ (hS.mem.res 0) (by first | assumption | omega | (simp_all; done) | (simp_all; omega))) ?_
         rintro _ wd ⟨F17, rfl, hA, hF⟩
         refine ⟨vi (vptE m o_ z i ((bs (fun _ => u8 (s_ + 4 * a)) 1) ++ (repS (bs (fun _ => u8 (1 + 4 * 0)) 1) (Int.toNat ((1 * (2 ^ Int.toNat a)) - 1))))), rfl, ?_⟩
         replace hS := (hS.to (hS.mem.stepA 0 rfl hA hF)).put (d := 50) (v := vi (vptE m o_ z i ((bs (fun _ => u8 (s_ + 4 * a)) 1) ++ (repS (bs (fun _ => u8 (1 + 4 * 0)) 1) (Int.toNat ((1 * (2 ^ Int.toNat a)) - 1)))))) (by decide)
         clear hF
         refine hS.ordV (l := [0]) ?_
         refine St.ordF [0] [15] [] (rest := []) hS hap <| segF [(8, vi (vptE m o_ z i ((bs (fun _ => u8 (s_ + 4 * a)) 1) ++ (repS (bs (fun _ => u8 (1 + 4 * 0)) 1) (Int.toNat ((1 * (2 ^ Int.toNat a)) - 1))))))] [] trivial fun ac hS => ?_
         refine ord_nil ?_
         refine wp_ret ?_
         refine St.retC 0 hS (vi (vptE m o_ z i ((bs (fun _ => u8 (s_ + 4 * a)) 1) ++ (repS (bs (fun _ => u8 (1 + 4 * 0)) 1) (Int.toNat ((1 * (2 ^ Int.toNat a)) - 1)))))) [] trivial fun hw => ?_
         refine ⟨F17, retd (vint ?_), (res_eq (r := arR b F17 (vptM m o_ z i ((bs (fun _ => u8 (s_ + 4 * a)) 1) ++ (repS (bs (fun _ => u8 (1 + 4 * 0)) 1) (Int.toNat ((1 * (2 ^ Int.toNat a)) - 1)))))) (by first | exact congrArg _ hD.2 | exact congrArg _ ((congrArg (vptM m o_ z i) (tagS_0 hs0)).trans hD.2) | exact congrArg _ ((congrArg (vptM m o_ z i) (tagS_1 hs0)).trans hD.2)) (hw.res 0)), hw.frA⟩
         all_goals (first | exact hD.1 | exact (congrArg (vptE m o_ z i) (tagS_0 hs0)).trans hD.1 | exact (congrArg (vptE m o_ z i) (tagS_1 hs0)).trans hD.1)
        ·
         refine hS.ordC 12 170 #[.string (bs (fun _ => u8 (1 + 4 * 0)) 1), vi ((1 * (2 ^ Int.toNat a)) - 1)] (str_Repeat (bs (fun _ => u8 (1 + 4 * 0)) 1) ((1 * (2 ^ Int.toNat a)) - 1) _  (by (rw [bs_size]; omega))) ?_
         rintro _ wd ⟨rfl, hF⟩
         refine ⟨.string (repS (bs (fun _ => u8 (1 + 4 * 0)) 1) (Int.toNat ((1 * (2 ^ Int.toNat a)) - 1))), rfl, ?_⟩
         replace hS := (hS.to (hS.mem.keep0 hF)).put (d := 48) (v := .string (repS (bs (fun _ => u8 (1 + 4 * 0)) 1) (Int.toNat ((1 * (2 ^ Int.toNat a)) - 1)))) (by decide)
         clear hF
         refine hS.ordV (l := [0]) ?_
         refine ord_nil ?_
         refine wpT_lin ?_
         refine Runs1.ord (i := 5) ?_
         refine St.toStr hS (.tmp 40) 215 9 rfl rfl (by decide) Tryd.underlying215 Tryd.underlying5 Tryd.underlying9 (b := (ν21 0)) (off := 0) (k := 1) (cp := 1) (fun _ => u8 (s_ + 4 * a)) (Cells8.one (hS.mem.get 1 (ν21 0) (.cells [v8 (s_ + 4 * a)] 5)) (by omega)) fun ac hS => ?_
         refine hS.ordV (l := [0]) ?_
         refine St.ordF [10] [13] [37, 38] (rest := [(14, 0), (15, 1)]) hS hap <| segF [(49, .string ((bs (fun _ => u8 (s_ + 4 * a)) 1) ++ (repS (bs (fun _ => u8 (1 + 4 * 0)) 1) (Int.toNat ((1 * (2 ^ Int.toNat a)) - 1)))))] [.p (((ByteArray.size (bs (fun _ => u8 (s_ + 4 * a)) 1) + ByteArray.size (repS (bs (fun _ => u8 (1 + 4 * 0)) 1) (Int.toNat ((1 * (2 ^ Int.toNat a)) - 1))) : Nat) : Int) ≤ IntKind.i64.max)] ⟨(by (rw [bs_size, repS_size]; have hmx : IntKind.i64.max = 9223372036854775807 := rfl; omega)), trivial⟩ fun ac hS => ?_
         refine hS.ordC 14 169 #[.agg #[pt b 0, vi o_, vi z], vi i, .string ((bs (fun _ => u8 (s_ + 4 * a)) 1) ++ (repS (bs (fun _ => u8 (1 + 4 * 0)) 1) (Int.toNat ((1 * (2 ^ Int.toNat a)) - 1))))] (vw_Put b F m o_ z i ((bs (fun _ => u8 (s_ + 4 * a)) 1) ++ (repS (bs (fun _ => u8 (1 + 4 * 0)) 1) (Int.toNat ((1 * (2 ^ Int.toNat a)) - 1)))) _ (hS.mem.res 0) (by first | assumption | omega | (simp_all; done) | (simp_all; omega))) ?_
         rintro _ wd ⟨F18, rfl, hA, hF⟩
         refine ⟨vi (vptE m o_ z i ((bs (fun _ => u8 (s_ + 4 * a)) 1) ++ (repS (bs (fun _ => u8 (1 + 4 * 0)) 1) (Int.toNat ((1 * (2 ^ Int.toNat a)) - 1))))), rfl, ?_⟩
         replace hS := (hS.to (hS.mem.stepA 0 rfl hA hF)).put (d := 50) (v := vi (vptE m o_ z i ((bs (fun _ => u8 (s_ + 4 * a)) 1) ++ (repS (bs (fun _ => u8 (1 + 4 * 0)) 1) (Int.toNat ((1 * (2 ^ Int.toNat a)) - 1)))))) (by decide)
         clear hF
         refine hS.ordV (l := [0]) ?_
         refine St.ordF [0] [15] [] (rest := []) hS hap <| segF [(8, vi (vptE m o_ z i ((bs (fun _ => u8 (s_ + 4 * a)) 1) ++ (repS (bs (fun _ => u8 (1 + 4 * 0)) 1) (Int.toNat ((1 * (2 ^ Int.toNat a)) - 1))))))] [] trivial fun ac hS => ?_
         refine ord_nil ?_
         refine wp_ret ?_
         refine St.retC 0 hS (vi (vptE m o_ z i ((bs (fun _ => u8 (s_ + 4 * a)) 1) ++ (repS (bs (fun _ => u8 (1 + 4 * 0)) 1) (Int.toNat ((1 * (2 ^ Int.toNat a)) - 1)))))) [] trivial fun hw => ?_
         refine ⟨F18, retd (vint ?_), (res_eq (r := arR b F18 (vptM m o_ z i ((bs (fun _ => u8 (s_ + 4 * a)) 1) ++ (repS (bs (fun _ => u8 (1 + 4 * 0)) 1) (Int.toNat ((1 * (2 ^ Int.toNat a)) - 1)))))) (by first | exact congrArg _ hD.2 | exact congrArg _ ((congrArg (vptM m o_ z i) (tagS_0 hs0)).trans hD.2) | exact congrArg _ ((congrArg (vptM m o_ z i) (tagS_1 hs0)).trans hD.2)) (hw.res 0)), hw.frA⟩
         all_goals (first | exact hD.1 | exact (congrArg (vptE m o_ z i) (tagS_0 hs0)).trans hD.1 | exact (congrArg (vptE m o_ z i) (tagS_1 hs0)).trans hD.1)
     ·
      refine St.ord1 7 [0] [37, 38, 39, 47] [0] hS rfl fun ν24 => seg [(43, sc (ν24 0) 0 1 1)] [(0, none), (1, some ((ν24 0), .cells [v8 (1 + 4 * 0)] 5))] [] trivial ⟨by as_aux_lemma => kernel_rfl, fun ac wd hS => ?_⟩
      refine ord_nil ?_
      refine wpT_two ?_
      refine ord_nil ?_
      refine ⟨?_, ?_⟩
      ·
       refine St.ord1 4 [0] [37, 38, 43, 47] [0] hS rfl fun ν25 => seg [(40, sc (ν25 0) 0 1 1)] [(0, none), (1, none), (2, some ((ν25 0), .cells [v8 (s_ + 4 * a)] 5))] [] trivial ⟨by as_aux_lemma => kernel_rfl, fun ac wd hS => ?_⟩
       refine ord_nil ?_
       refine wpT_two ?_
       refine ord_nil ?_
       refine ⟨?_, ?_⟩
       ·
        refine Runs1.ord (i := 5) ?_
        refine St.toStr hS (.tmp 40) 215 9 rfl rfl (by decide) Tryd.underlying215 Tryd.underlying5 Tryd.underlying9 (b := (ν25 0)) (off := 0) (k := 1) (cp := 1) (fun _ => u8 (s_ + 4 * a)) (Cells8.one (hS.mem.get 2 (ν25 0) (.cells [v8 (s_ + 4 * a)] 5)) (by omega)) fun ac hS => ?_
        refine hS.ordV (l := [0]) ?_
        refine ord_nil ?_
        refine wpT_lin ?_
        refine Runs1.ord (i := 8) ?_
        refine St.toStr hS (.tmp 43) 215 9 rfl rfl (by decide) Tryd.underlying215 Tryd.underlying5 Tryd.underlying9 (b := (ν24 0)) (off := 0) (k := 1) (cp := 1) (fun _ => u8 (1 + 4 * 0)) (Cells8.one (hS.mem.get 1 (ν24 0) (.cells [v8 (1 + 4 * 0)] 5)) (by omega)) fun ac hS => ?_
        refine hS.ordV (l := [0]) ?_
        refine hS.ordC 12 170 #[.string (bs (fun _ => u8 (1 + 4 * 0)) 1), vi ((1 * (2 ^ Int.toNat a)) - 1)] (str_Repeat (bs (fun _ => u8 (1 + 4 * 0)) 1) ((1 * (2 ^ Int.toNat a)) - 1) _  (by (rw [bs_size]; omega))) ?_
        rintro _ wd ⟨rfl, hF⟩
        refine ⟨.string (repS (bs (fun _ => u8 (1 + 4 * 0)) 1) (Int.toNat ((1 * (2 ^ Int.toNat a)) - 1))), rfl, ?_⟩
        replace hS := (hS.to (hS.mem.keep0 hF)).put (d := 48) (v := .string (repS (bs (fun _ => u8 (1 + 4 * 0)) 1) (Int.toNat ((1 * (2 ^ Int.toNat a)) - 1)))) (by decide)
        clear hF
        refine hS.ordV (l := [0]) ?_
        refine St.ordF [10] [13] [37, 38] (rest := [(14, 0), (15, 1)]) hS hap <| segF [(49, .string ((bs (fun _ => u8 (s_ + 4 * a)) 1) ++ (repS (bs (fun _ => u8 (1 + 4 * 0)) 1) (Int.toNat ((1 * (2 ^ Int.toNat a)) - 1)))))] [.p (((ByteArray.size (bs (fun _ => u8 (s_ + 4 * a)) 1) + ByteArray.size (repS (bs (fun _ => u8 (1 + 4 * 0)) 1) (Int.toNat ((1 * (2 ^ Int.toNat a)) - 1))) : Nat) : Int) ≤ IntKind.i64.max)] ⟨(by (rw [bs_size, repS_size]; have hmx : IntKind.i64.max = 9223372036854775807 := rfl; omega)), trivial⟩ fun ac hS => ?_
        refine hS.ordC 14 169 #[.agg #[pt b 0, vi o_, vi z], vi i, .string ((bs (fun _ => u8 (s_ + 4 * a)) 1) ++ (repS (bs (fun _ => u8 (1 + 4 * 0)) 1) (Int.toNat ((1 * (2 ^ Int.toNat a)) - 1))))] (vw_Put b F m o_ z i ((bs (fun _ => u8 (s_ + 4 * a)) 1) ++ (repS (bs (fun _ => u8 (1 + 4 * 0)) 1) (Int.toNat ((1 * (2 ^ Int.toNat a)) - 1)))) _ (hS.mem.res 0) (by first | assumption | omega | (simp_all; done) | (simp_all; omega))) ?_
        rintro _ wd ⟨F19, rfl, hA, hF⟩
        refine ⟨vi (vptE m o_ z i ((bs (fun _ => u8 (s_ + 4 * a)) 1) ++ (repS (bs (fun _ => u8 (1 + 4 * 0)) 1) (Int.toNat ((1 * (2 ^ Int.toNat a)) - 1))))), rfl, ?_⟩
        replace hS := (hS.to (hS.mem.stepA 0 rfl hA hF)).put (d := 50) (v := vi (vptE m o_ z i ((bs (fun _ => u8 (s_ + 4 * a)) 1) ++ (repS (bs (fun _ => u8 (1 + 4 * 0)) 1) (Int.toNat ((1 * (2 ^ Int.toNat a)) - 1)))))) (by decide)
        clear hF
        refine hS.ordV (l := [0]) ?_
        refine St.ordF [0] [15] [] (rest := []) hS hap <| segF [(8, vi (vptE m o_ z i ((bs (fun _ => u8 (s_ + 4 * a)) 1) ++ (repS (bs (fun _ => u8 (1 + 4 * 0)) 1) (Int.toNat ((1 * (2 ^ Int.toNat a)) - 1))))))] [] trivial fun ac hS => ?_
        refine ord_nil ?_
        refine wp_ret ?_
        refine St.retC 0 hS (vi (vptE m o_ z i ((bs (fun _ => u8 (s_ + 4 * a)) 1) ++ (repS (bs (fun _ => u8 (1 + 4 * 0)) 1) (Int.toNat ((1 * (2 ^ Int.toNat a)) - 1)))))) [] trivial fun hw => ?_
        refine ⟨F19, retd (vint ?_), (res_eq (r := arR b F19 (vptM m o_ z i ((bs (fun _ => u8 (s_ + 4 * a)) 1) ++ (repS (bs (fun _ => u8 (1 + 4 * 0)) 1) (Int.toNat ((1 * (2 ^ Int.toNat a)) - 1)))))) (by first | exact congrArg _ hD.2 | exact congrArg _ ((congrArg (vptM m o_ z i) (tagS_0 hs0)).trans hD.2) | exact congrArg _ ((congrArg (vptM m o_ z i) (tagS_1 hs0)).trans hD.2)) (hw.res 0)), hw.frA⟩
        all_goals (first | exact hD.1 | exact (congrArg (vptE m o_ z i) (tagS_0 hs0)).trans hD.1 | exact (congrArg (vptE m o_ z i) (tagS_1 hs0)).trans hD.1)
       ·
        refine Runs1.ord (i := 8) ?_
        refine St.toStr hS (.tmp 43) 215 9 rfl rfl (by decide) Tryd.underlying215 Tryd.underlying5 Tryd.underlying9 (b := (ν24 0)) (off := 0) (k := 1) (cp := 1) (fun _ => u8 (1 + 4 * 0)) (Cells8.one (hS.mem.get 1 (ν24 0) (.cells [v8 (1 + 4 * 0)] 5)) (by omega)) fun ac hS => ?_
        refine hS.ordV (l := [0]) ?_
        refine ord_nil ?_
        refine wpT_two ?_
        refine ord_nil ?_
        refine ⟨?_, ?_⟩
        ·
         refine Runs1.ord (i := 5) ?_
         refine St.toStr hS (.tmp 40) 215 9 rfl rfl (by decide) Tryd.underlying215 Tryd.underlying5 Tryd.underlying9 (b := (ν25 0)) (off := 0) (k := 1) (cp := 1) (fun _ => u8 (s_ + 4 * a)) (Cells8.one (hS.mem.get 2 (ν25 0) (.cells [v8 (s_ + 4 * a)] 5)) (by omega)) fun ac hS => ?_
         refine hS.ordV (l := [0]) ?_
         refine ord_nil ?_
         refine wpT_lin ?_
         refine hS.ordC 12 170 #[.string (bs (fun _ => u8 (1 + 4 * 0)) 1), vi ((1 * (2 ^ Int.toNat a)) - 1)] (str_Repeat (bs (fun _ => u8 (1 + 4 * 0)) 1) ((1 * (2 ^ Int.toNat a)) - 1) _  (by (rw [bs_size]; omega))) ?_
         rintro _ wd ⟨rfl, hF⟩
         refine ⟨.string (repS (bs (fun _ => u8 (1 + 4 * 0)) 1) (Int.toNat ((1 * (2 ^ Int.toNat a)) - 1))), rfl, ?_⟩
         replace hS := (hS.to (hS.mem.keep0 hF)).put (d := 48) (v := .string (repS (bs (fun _ => u8 (1 + 4 * 0)) 1) (Int.toNat ((1 * (2 ^ Int.toNat a)) - 1)))) (by decide)
         clear hF
         refine hS.ordV (l := [0]) ?_
         refine St.ordF [10] [13] [37, 38] (rest := [(14, 0), (15, 1)]) hS hap <| segF [(49, .string ((bs (fun _ => u8 (s_ + 4 * a)) 1) ++ (repS (bs (fun _ => u8 (1 + 4 * 0)) 1) (Int.toNat ((1 * (2 ^ Int.toNat a)) - 1)))))] [.p (((ByteArray.size (bs (fun _ => u8 (s_ + 4 * a)) 1) + ByteArray.size (repS (bs (fun _ => u8 (1 + 4 * 0)) 1) (Int.toNat ((1 * (2 ^ Int.toNat a)) - 1))) : Nat) : Int) ≤ IntKind.i64.max)] ⟨(by (rw [bs_size, repS_size]; have hmx : IntKind.i64.max = 9223372036854775807 := rfl; omega)), trivial⟩ fun ac hS => ?_
         refine hS.ordC 14 169 #[.agg #[pt b 0, vi o_, vi z], vi i, .string ((bs (fun _ => u8 (s_ + 4 * a)) 1) ++ (repS (bs (fun _ => u8 (1 + 4 * 0)) 1) (Int.toNat ((1 * (2 ^ Int.toNat a)) - 1))))] (vw_Put b F m o_ z i ((bs (fun _ => u8 (s_ + 4 * a)) 1) ++ (repS (bs (fun _ => u8 (1 + 4 * 0)) 1) (Int.toNat ((1 * (2 ^ Int.toNat a)) - 1)))) _ (hS.mem.res 0) (by first | assumption | omega | (simp_all; done) | (simp_all; omega))) ?_
         rintro _ wd ⟨F20, rfl, hA, hF⟩
         refine ⟨vi (vptE m o_ z i ((bs (fun _ => u8 (s_ + 4 * a)) 1) ++ (repS (bs (fun _ => u8 (1 + 4 * 0)) 1) (Int.toNat ((1 * (2 ^ Int.toNat a)) - 1))))), rfl, ?_⟩
         replace hS := (hS.to (hS.mem.stepA 0 rfl hA hF)).put (d := 50) (v := vi (vptE m o_ z i ((bs (fun _ => u8 (s_ + 4 * a)) 1) ++ (repS (bs (fun _ => u8 (1 + 4 * 0)) 1) (Int.toNat ((1 * (2 ^ Int.toNat a)) - 1)))))) (by decide)
         clear hF
         refine hS.ordV (l := [0]) ?_
         refine St.ordF [0] [15] [] (rest := []) hS hap <| segF [(8, vi (vptE m o_ z i ((bs (fun _ => u8 (s_ + 4 * a)) 1) ++ (repS (bs (fun _ => u8 (1 + 4 * 0)) 1) (Int.toNat ((1 * (2 ^ Int.toNat a)) - 1))))))] [] trivial fun ac hS => ?_
         refine ord_nil ?_
         refine wp_ret ?_
         refine St.retC 0 hS (vi (vptE m o_ z i ((bs (fun _ => u8 (s_ + 4 * a)) 1) ++ (repS (bs (fun _ => u8 (1 + 4 * 0)) 1) (Int.toNat ((1 * (2 ^ Int.toNat a)) - 1)))))) [] trivial fun hw => ?_
         refine ⟨F20, retd (vint ?_), (res_eq (r := arR b F20 (vptM m o_ z i ((bs (fun _ => u8 (s_ + 4 * a)) 1) ++ (repS (bs (fun _ => u8 (1 + 4 * 0)) 1) (Int.toNat ((1 * (2 ^ Int.toNat a)) - 1)))))) (by first | exact congrArg _ hD.2 | exact congrArg _ ((congrArg (vptM m o_ z i) (tagS_0 hs0)).trans hD.2) | exact congrArg _ ((congrArg (vptM m o_ z i) (tagS_1 hs0)).trans hD.2)) (hw.res 0)), hw.frA⟩
         all_goals (first | exact hD.1 | exact (congrArg (vptE m o_ z i) (tagS_0 hs0)).trans hD.1 | exact (congrArg (vptE m o_ z i) (tagS_1 hs0)).trans hD.1)
        ·
         refine hS.ordC 12 170 #[.string (bs (fun _ => u8 (1 + 4 * 0)) 1), vi ((1 * (2 ^ Int.toNat a)) - 1)] (str_Repeat (bs (fun _ => u8 (1 + 4 * 0)) 1) ((1 * (2 ^ Int.toNat a)) - 1) _  (by (rw [bs_size]; omega))) ?_
         rintro _ wd ⟨rfl, hF⟩
         refine ⟨.string (repS (bs (fun _ => u8 (1 + 4 * 0)) 1) (Int.toNat ((1 * (2 ^ Int.toNat a)) - 1))), rfl, ?_⟩
         replace hS := (hS.to (hS.mem.keep0 hF)).put (d := 48) (v := .string (repS (bs (fun _ => u8 (1 + 4 * 0)) 1) (Int.toNat ((1 * (2 ^ Int.toNat a)) - 1)))) (by decide)
         clear hF
         refine hS.ordV (l := [0]) ?_
         refine ord_nil ?_
         refine wpT_lin ?_
         refine Runs1.ord (i := 5) ?_
         refine St.toStr hS (.tmp 40) 215 9 rfl rfl (by decide) Tryd.underlying215 Tryd.underlying5 Tryd.underlying9 (b := (ν25 0)) (off := 0) (k := 1) (cp := 1) (fun _ => u8 (s_ + 4 * a)) (Cells8.one (hS.mem.get 2 (ν25 0) (.cells [v8 (s_ + 4 * a)] 5)) (by omega)) fun ac hS => ?_
         refine hS.ordV (l := [0]) ?_
         refine St.ordF [10] [13] [37, 38] (rest := [(14, 0), (15, 1)]) hS hap <| segF [(49, .string ((bs (fun _ => u8 (s_ + 4 * a)) 1) ++ (repS (bs (fun _ => u8 (1 + 4 * 0)) 1) (Int.toNat ((1 * (2 ^ Int.toNat a)) - 1)))))] [.p (((ByteArray.size (bs (fun _ => u8 (s_ + 4 * a)) 1) + ByteArray.size (repS (bs (fun _ => u8 (1 + 4 * 0)) 1) (Int.toNat ((1 * (2 ^ Int.toNat a)) - 1))) : Nat) : Int) ≤ IntKind.i64.max)] ⟨(by (rw [bs_size, repS_size]; have hmx : IntKind.i64.max = 9223372036854775807 := rfl; omega)), trivial⟩ fun ac hS => ?_
         refine hS.ordC 14 169 #[.agg #[pt b 0, vi o_, vi z], vi i, .string ((bs (fun _ => u8 (s_ + 4 * a)) 1) ++ (repS (bs (fun _ => u8 (1 + 4 * 0)) 1) (Int.toNat ((1 * (2 ^ Int.toNat a)) - 1))))] (vw_Put b F m o_ z i ((bs (fun _ => u8 (s_ + 4 * a)) 1) ++ (repS (bs (fun _ => u8 (1 + 4 * 0)) 1) (Int.toNat ((1 * (2 ^ Int.toNat a)) - 1)))) _ (hS.mem.res 0) (by first | assumption | omega | (simp_all; done) | (simp_all; omega))) ?_
         rintro _ wd ⟨F21, rfl, hA, hF⟩
         refine ⟨vi (vptE m o_ z i ((bs (fun _ => u8 (s_ + 4 * a)) 1) ++ (repS (bs (fun _ => u8 (1 + 4 * 0)) 1) (Int.toNat ((1 * (2 ^ Int.toNat a)) - 1))))), rfl, ?_⟩
         replace hS := (hS.to (hS.mem.stepA 0 rfl hA hF)).put (d := 50) (v := vi (vptE m o_ z i ((bs (fun _ => u8 (s_ + 4 * a)) 1) ++ (repS (bs (fun _ => u8 (1 + 4 * 0)) 1) (Int.toNat ((1 * (2 ^ Int.toNat a)) - 1)))))) (by decide)
         clear hF
         refine hS.ordV (l := [0]) ?_
         refine St.ordF [0] [15] [] (rest := []) hS hap <| segF [(8, vi (vptE m o_ z i ((bs (fun _ => u8 (s_ + 4 * a)) 1) ++ (repS (bs (fun _ => u8 (1 + 4 * 0)) 1) (Int.toNat ((1 * (2 ^ Int.toNat a)) - 1))))))] [] trivial fun ac hS => ?_
         refine ord_nil ?_
         refine wp_ret ?_
         refine St.retC 0 hS (vi (vptE m o_ z i ((bs (fun _ => u8 (s_ + 4 * a)) 1) ++ (repS (bs (fun _ => u8 (1 + 4 * 0)) 1) (Int.toNat ((1 * (2 ^ Int.toNat a)) - 1)))))) [] trivial fun hw => ?_
         refine ⟨F21, retd (vint ?_), (res_eq (r := arR b F21 (vptM m o_ z i ((bs (fun _ => u8 (s_ + 4 * a)) 1) ++ (repS (bs (fun _ => u8 (1 + 4 * 0)) 1) (Int.toNat ((1 * (2 ^ Int.toNat a)) - 1)))))) (by first | exact congrArg _ hD.2 | exact congrArg _ ((congrArg (vptM m o_ z i) (tagS_0 hs0)).trans hD.2) | exact congrArg _ ((congrArg (vptM m o_ z i) (tagS_1 hs0)).trans hD.2)) (hw.res 0)), hw.frA⟩
         all_goals (first | exact hD.1 | exact (congrArg (vptE m o_ z i) (tagS_0 hs0)).trans hD.1 | exact (congrArg (vptE m o_ z i) (tagS_1 hs0)).trans hD.1)
      ·
       refine Runs1.ord (i := 8) ?_
       refine St.toStr hS (.tmp 43) 215 9 rfl rfl (by decide) Tryd.underlying215 Tryd.underlying5 Tryd.underlying9 (b := (ν24 0)) (off := 0) (k := 1) (cp := 1) (fun _ => u8 (1 + 4 * 0)) (Cells8.one (hS.mem.get 1 (ν24 0) (.cells [v8 (1 + 4 * 0)] 5)) (by omega)) fun ac hS => ?_
       refine hS.ordV (l := [0]) ?_
       refine ord_nil ?_
       refine wpT_two ?_
       refine ord_nil ?_
       refine ⟨?_, ?_⟩
       ·
        refine St.ord1 4 [0] [37, 38, 44, 47] [0] hS rfl fun ν26 => seg [(40, sc (ν26 0) 0 1 1)] [(0, none), (1, none), (2, some ((ν26 0), .cells [v8 (s_ + 4 * a)] 5))] [] trivial ⟨by as_aux_lemma => kernel_rfl, fun ac wd hS => ?_⟩
        refine ord_nil ?_
        refine wpT_two ?_
        refine ord_nil ?_
        refine ⟨?_, ?_⟩
        ·
         refine Runs1.ord (i := 5) ?_
         refine St.toStr hS (.tmp 40) 215 9 rfl rfl (by decide) Tryd.underlying215 Tryd.underlying5 Tryd.underlying9 (b := (ν26 0)) (off := 0) (k := 1) (cp := 1) (fun _ => u8 (s_ + 4 * a)) (Cells8.one (hS.mem.get 2 (ν26 0) (.cells [v8 (s_ + 4 * a)] 5)) (by omega)) fun ac hS => ?_
         refine hS.ordV (l := [0]) ?_
         refine ord_nil ?_
         refine wpT_lin ?_
         refine hS.ordC 12 170 #[.string (bs (fun _ => u8 (1 + 4 * 0)) 1), vi ((1 * (2 ^ Int.toNat a)) - 1)] (str_Repeat (bs (fun _ => u8 (1 + 4 * 0)) 1) ((1 * (2 ^ Int.toNat a)) - 1) _  (by (rw [bs_size]; omega))) ?_
         rintro _ wd ⟨rfl, hF⟩
         refine ⟨.string (repS (bs (fun _ => u8 (1 + 4 * 0)) 1) (Int.toNat ((1 * (2 ^ Int.toNat a)) - 1))), rfl, ?_⟩
         replace hS := (hS.to (hS.mem.keep0 hF)).put (d := 48) (v := .string (repS (bs (fun _ => u8 (1 + 4 * 0)) 1) (Int.toNat ((1 * (2 ^ Int.toNat a)) - 1)))) (by decide)
         clear hF
         refine hS.ordV (l := [0]) ?_
         refine St.ordF [10] [13] [37, 38] (rest := [(14, 0), (15, 1)]) hS hap <| segF [(49, .string ((bs (fun _ => u8 (s_ + 4 * a)) 1) ++ (repS (bs (fun _ => u8 (1 + 4 * 0)) 1) (Int.toNat ((1 * (2 ^ Int.toNat a)) - 1)))))] [.p (((ByteArray.size (bs (fun _ => u8 (s_ + 4 * a)) 1) + ByteArray.size (repS (bs (fun _ => u8 (1 + 4 * 0)) 1) (Int.toNat ((1 * (2 ^ Int.toNat a)) - 1))) : Nat) : Int) ≤ IntKind.i64.max)] ⟨(by (rw [bs_size, repS_size]; have hmx : IntKind.i64.max = 9223372036854775807 := rfl; omega)), trivial⟩ fun ac hS => ?_
         refine hS.ordC 14 169 #[.agg #[pt b 0, vi o_, vi z], vi i, .string ((bs (fun _ => u8 (s_ + 4 * a)) 1) ++ (repS (bs (fun _ => u8 (1 + 4 * 0)) 1) (Int.toNat ((1 * (2 ^ Int.toNat a)) - 1))))] (vw_Put b F m o_ z i ((bs (fun _ => u8 (s_ + 4 * a)) 1) ++ (repS (bs (fun _ => u8 (1 + 4 * 0)) 1) (Int.toNat ((1 * (2 ^ Int.toNat a)) - 1)))) _ (hS.mem.res 0) (by first | assumption | omega | (simp_all; done) | (simp_all; omega))) ?_
         rintro _ wd ⟨F22, rfl, hA, hF⟩
         refine ⟨vi (vptE m o_ z i ((bs (fun _ => u8 (s_ + 4 * a)) 1) ++ (repS (bs (fun _ => u8 (1 + 4 * 0)) 1) (Int.toNat ((1 * (2 ^ Int.toNat a)) - 1))))), rfl, ?_⟩
         replace hS := (hS.to (hS.mem.stepA 0 rfl hA hF)).put (d := 50) (v := vi (vptE m o_ z i ((bs (fun _ => u8 (s_ + 4 * a)) 1) ++ (repS (bs (fun _ => u8 (1 + 4 * 0)) 1) (Int.toNat ((1 * (2 ^ Int.toNat a)) - 1)))))) (by decide)
         clear hF
         refine hS.ordV (l := [0]) ?_
         refine St.ordF [0] [15] [] (rest := []) hS hap <| segF [(8, vi (vptE m o_ z i ((bs (fun _ => u8 (s_ + 4 * a)) 1) ++ (repS (bs (fun _ => u8 (1 + 4 * 0)) 1) (Int.toNat ((1 * (2 ^ Int.toNat a)) - 1))))))] [] trivial fun ac hS => ?_
         refine ord_nil ?_
         refine wp_ret ?_
         refine St.retC 0 hS (vi (vptE m o_ z i ((bs (fun _ => u8 (s_ + 4 * a)) 1) ++ (repS (bs (fun _ => u8 (1 + 4 * 0)) 1) (Int.toNat ((1 * (2 ^ Int.toNat a)) - 1)))))) [] trivial fun hw => ?_
         refine ⟨F22, retd (vint ?_), (res_eq (r := arR b F22 (vptM m o_ z i ((bs (fun _ => u8 (s_ + 4 * a)) 1) ++ (repS (bs (fun _ => u8 (1 + 4 * 0)) 1) (Int.toNat ((1 * (2 ^ Int.toNat a)) - 1)))))) (by first | exact congrArg _ hD.2 | exact congrArg _ ((congrArg (vptM m o_ z i) (tagS_0 hs0)).trans hD.2) | exact congrArg _ ((congrArg (vptM m o_ z i) (tagS_1 hs0)).trans hD.2)) (hw.res 0)), hw.frA⟩
         all_goals (first | exact hD.1 | exact (congrArg (vptE m o_ z i) (tagS_0 hs0)).trans hD.1 | exact (congrArg (vptE m o_ z i) (tagS_1 hs0)).trans hD.1)
        ·
         refine hS.ordC 12 170 #[.string (bs (fun _ => u8 (1 + 4 * 0)) 1), vi ((1 * (2 ^ Int.toNat a)) - 1)] (str_Repeat (bs (fun _ => u8 (1 + 4 * 0)) 1) ((1 * (2 ^ Int.toNat a)) - 1) _  (by (rw [bs_size]; omega))) ?_
         rintro _ wd ⟨rfl, hF⟩
         refine ⟨.string (repS (bs (fun _ => u8 (1 + 4 * 0)) 1) (Int.toNat ((1 * (2 ^ Int.toNat a)) - 1))), rfl, ?_⟩
         replace hS := (hS.to (hS.mem.keep0 hF)).put (d := 48) (v := .string (repS (bs (fun _ => u8 (1 + 4 * 0)) 1) (Int.toNat ((1 * (2 ^ Int.toNat a)) - 1)))) (by decide)
         clear hF
         refine hS.ordV (l := [0]) ?_
         refine ord_nil ?_
         refine wpT_lin ?_
         refine Runs1.ord (i := 5) ?_
         refine St.toStr hS (.tmp 40) 215 9 rfl rfl (by decide) Tryd.underlying215 Tryd.underlying5 Tryd.underlying9 (b := (ν26 0)) (off := 0) (k := 1) (cp := 1) (fun _ => u8 (s_ + 4 * a)) (Cells8.one (hS.mem.get 2 (ν26 0) (.cells [v8 (s_ + 4 * a)] 5)) (by omega)) fun ac hS => ?_
         refine hS.ordV (l := [0]) ?_
         refine St.ordF [10] [13] [37, 38] (rest := [(14, 0), (15, 1)]) hS hap <| segF [(49, .string ((bs (fun _ => u8 (s_ + 4 * a)) 1) ++ (repS (bs (fun _ => u8 (1 + 4 * 0)) 1) (Int.toNat ((1 * (2 ^ Int.toNat a)) - 1)))))] [.p (((ByteArray.size (bs (fun _ => u8 (s_ + 4 * a)) 1) + ByteArray.size (repS (bs (fun _ => u8 (1 + 4 * 0)) 1) (Int.toNat ((1 * (2 ^ Int.toNat a)) - 1))) : Nat) : Int) ≤ IntKind.i64.max)] ⟨(by (rw [bs_size, repS_size]; have hmx : IntKind.i64.max = 9223372036854775807 := rfl; omega)), trivial⟩ fun ac hS => ?_
         refine hS.ordC 14 169 #[.agg #[pt b 0, vi o_, vi z], vi i, .string ((bs (fun _ => u8 (s_ + 4 * a)) 1) ++ (repS (bs (fun _ => u8 (1 + 4 * 0)) 1) (Int.toNat ((1 * (2 ^ Int.toNat a)) - 1))))] (vw_Put b F m o_ z i ((bs (fun _ => u8 (s_ + 4 * a)) 1) ++ (repS (bs (fun _ => u8 (1 + 4 * 0)) 1) (Int.toNat ((1 * (2 ^ Int.toNat a)) - 1)))) _ (hS.mem.res 0) (by first | assumption | omega | (simp_all; done) | (simp_all; omega))) ?_
         rintro _ wd ⟨F23, rfl, hA, hF⟩
         refine ⟨vi (vptE m o_ z i ((bs (fun _ => u8 (s_ + 4 * a)) 1) ++ (repS (bs (fun _ => u8 (1 + 4 * 0)) 1) (Int.toNat ((1 * (2 ^ Int.toNat a)) - 1))))), rfl, ?_⟩
         replace hS := (hS.to (hS.mem.stepA 0 rfl hA hF)).put (d := 50) (v := vi (vptE m o_ z i ((bs (fun _ => u8 (s_ + 4 * a)) 1) ++ (repS (bs (fun _ => u8 (1 + 4 * 0)) 1) (Int.toNat ((1 * (2 ^ Int.toNat a)) - 1)))))) (by decide)
         clear hF
         refine hS.ordV (l := [0]) ?_
         refine St.ordF [0] [15] [] (rest := []) hS hap <| segF [(8, vi (vptE m o_ z i ((bs (fun _ => u8 (s_ + 4 * a)) 1) ++ (repS (bs (fun _ => u8 (1 + 4 * 0)) 1) (Int.toNat ((1 * (2 ^ Int.toNat a)) - 1))))))] [] trivial fun ac hS => ?_
         refine ord_nil ?_
         refine wp_ret ?_
         refine St.retC 0 hS (vi (vptE m o_ z i ((bs (fun _ => u8 (s_ + 4 * a)) 1) ++ (repS (bs (fun _ => u8 (1 + 4 * 0)) 1) (Int.toNat ((1 * (2 ^ Int.toNat a)) - 1)))))) [] trivial fun hw => ?_
         refine ⟨F23, retd (vint ?_), (res_eq (r := arR b F23 (vptM m o_ z i ((bs (fun _ => u8 (s_ + 4 * a)) 1) ++ (repS (bs (fun _ => u8 (1 + 4 * 0)) 1) (Int.toNat ((1 * (2 ^ Int.toNat a)) - 1)))))) (by first | exact congrArg _ hD.2 | exact congrArg _ ((congrArg (vptM m o_ z i) (tagS_0 hs0)).trans hD.2) | exact congrArg _ ((congrArg (vptM m o_ z i) (tagS_1 hs0)).trans hD.2)) (hw.res 0)), hw.frA⟩
         all_goals (first | exact hD.1 | exact (congrArg (vptE m o_ z i) (tagS_0 hs0)).trans hD.1 | exact (congrArg (vptE m o_ z i) (tagS_1 hs0)).trans hD.1)
       ·
        refine hS.ordC 12 170 #[.string (bs (fun _ => u8 (1 + 4 * 0)) 1), vi ((1 * (2 ^ Int.toNat a)) - 1)] (str_Repeat (bs (fun _ => u8 (1 + 4 * 0)) 1) ((1 * (2 ^ Int.toNat a)) - 1) _  (by (rw [bs_size]; omega))) ?_
        rintro _ wd ⟨rfl, hF⟩
        refine ⟨.string (repS (bs (fun _ => u8 (1 + 4 * 0)) 1) (Int.toNat ((1 * (2 ^ Int.toNat a)) - 1))), rfl, ?_⟩
        replace hS := (hS.to (hS.mem.keep0 hF)).put (d := 48) (v := .string (repS (bs (fun _ => u8 (1 + 4 * 0)) 1) (Int.toNat ((1 * (2 ^ Int.toNat a)) - 1)))) (by decide)
        clear hF
        refine hS.ordV (l := [0]) ?_
        refine ord_nil ?_
        refine wpT_lin ?_
        refine St.ord1 4 [0] [37, 38, 48] [0] hS rfl fun ν27 => seg [(40, sc (ν27 0) 0 1 1)] [(0, none), (1, none), (2, some ((ν27 0), .cells [v8 (s_ + 4 * a)] 5))] [] trivial ⟨by as_aux_lemma => kernel_rfl, fun ac wd hS => ?_⟩
        refine Runs1.ord (i := 5) ?_
        refine St.toStr hS (.tmp 40) 215 9 rfl rfl (by decide) Tryd.underlying215 Tryd.underlying5 Tryd.underlying9 (b := (ν27 0)) (off := 0) (k := 1) (cp := 1) (fun _ => u8 (s_ + 4 * a)) (Cells8.one (hS.mem.get 2 (ν27 0) (.cells [v8 (s_ + 4 * a)] 5)) (by omega)) fun ac hS => ?_
        refine hS.ordV (l := [0]) ?_
        refine St.ordF [10] [13] [37, 38] (rest := [(14, 0), (15, 1)]) hS hap <| segF [(49, .string ((bs (fun _ => u8 (s_ + 4 * a)) 1) ++ (repS (bs (fun _ => u8 (1 + 4 * 0)) 1) (Int.toNat ((1 * (2 ^ Int.toNat a)) - 1)))))] [.p (((ByteArray.size (bs (fun _ => u8 (s_ + 4 * a)) 1) + ByteArray.size (repS (bs (fun _ => u8 (1 + 4 * 0)) 1) (Int.toNat ((1 * (2 ^ Int.toNat a)) - 1))) : Nat) : Int) ≤ IntKind.i64.max)] ⟨(by (rw [bs_size, repS_size]; have hmx : IntKind.i64.max = 9223372036854775807 := rfl; omega)), trivial⟩ fun ac hS => ?_
        refine hS.ordC 14 169 #[.agg #[pt b 0, vi o_, vi z], vi i, .string ((bs (fun _ => u8 (s_ + 4 * a)) 1) ++ (repS (bs (fun _ => u8 (1 + 4 * 0)) 1) (Int.toNat ((1 * (2 ^ Int.toNat a)) - 1))))] (vw_Put b F m o_ z i ((bs (fun _ => u8 (s_ + 4 * a)) 1) ++ (repS (bs (fun _ => u8 (1 + 4 * 0)) 1) (Int.toNat ((1 * (2 ^ Int.toNat a)) - 1)))) _ (hS.mem.res 0) (by first | assumption | omega | (simp_all; done) | (simp_all; omega))) ?_
        rintro _ wd ⟨F24, rfl, hA, hF⟩
        refine ⟨vi (vptE m o_ z i ((bs (fun _ => u8 (s_ + 4 * a)) 1) ++ (repS (bs (fun _ => u8 (1 + 4 * 0)) 1) (Int.toNat ((1 * (2 ^ Int.toNat a)) - 1))))), rfl, ?_⟩
        replace hS := (hS.to (hS.mem.stepA 0 rfl hA hF)).put (d := 50) (v := vi (vptE m o_ z i ((bs (fun _ => u8 (s_ + 4 * a)) 1) ++ (repS (bs (fun _ => u8 (1 + 4 * 0)) 1) (Int.toNat ((1 * (2 ^ Int.toNat a)) - 1)))))) (by decide)
        clear hF
        refine hS.ordV (l := [0]) ?_
        refine St.ordF [0] [15] [] (rest := []) hS hap <| segF [(8, vi (vptE m o_ z i ((bs (fun _ => u8 (s_ + 4 * a)) 1) ++ (repS (bs (fun _ => u8 (1 + 4 * 0)) 1) (Int.toNat ((1 * (2 ^ Int.toNat a)) - 1))))))] [] trivial fun ac hS => ?_
        refine ord_nil ?_
        refine wp_ret ?_
        refine St.retC 0 hS (vi (vptE m o_ z i ((bs (fun _ => u8 (s_ + 4 * a)) 1) ++ (repS (bs (fun _ => u8 (1 + 4 * 0)) 1) (Int.toNat ((1 * (2 ^ Int.toNat a)) - 1)))))) [] trivial fun hw => ?_
        refine ⟨F24, retd (vint ?_), (res_eq (r := arR b F24 (vptM m o_ z i ((bs (fun _ => u8 (s_ + 4 * a)) 1) ++ (repS (bs (fun _ => u8 (1 + 4 * 0)) 1) (Int.toNat ((1 * (2 ^ Int.toNat a)) - 1)))))) (by first | exact congrArg _ hD.2 | exact congrArg _ ((congrArg (vptM m o_ z i) (tagS_0 hs0)).trans hD.2) | exact congrArg _ ((congrArg (vptM m o_ z i) (tagS_1 hs0)).trans hD.2)) (hw.res 0)), hw.frA⟩
        all_goals (first | exact hD.1 | exact (congrArg (vptE m o_ z i) (tagS_0 hs0)).trans hD.1 | exact (congrArg (vptE m o_ z i) (tagS_1 hs0)).trans hD.1)

theorem tags_Get_r (b : Nat) (F : Nat → Prop) (m : AM) (o_ : Int) (z : Int) (i : Int) (t : List (Int × Int)) (w : World) (hr : (arR b F m).R w) (hR : TgR m o_ z t) :
    Calls Tryd.prog 172 #[.agg #[pt b 0, vi o_, vi z], vi i] w fun e w' => e = .returned (.tuple #[.agg #[v8 (((rgV t i)).1), v8 (((rgV t i)).2)], vi (rgE t i)]) ∧ Fr w w' no no := by
 have hb : 0 ≤ o_ ∧ 0 ≤ z ∧ o_ + z ≤ 4294967296 := ⟨hR.o0, by have := hR.len; omega, by have h5 := inB_facts (thr_in hR.there); have h4 : m.cap ≤ 1048576 := (by obtain ⟨d, hd⟩ := id hr; exact hd.capLe); omega⟩
 have h_ := tags_Get b F m o_ z i w hr hb
 obtain ⟨e1, e2⟩ := hR.get i
 rw [← e1, ← e2]
 exact h_

theorem tags_Run_r (b : Nat) (F : Nat → Prop) (m : AM) (o_ : Int) (z : Int) (i : Int) (t : List (Int × Int)) (w : World) (hr : (arR b F m).R w) (hR : TgR m o_ z t) (hi : i ≤ 4611686018427387904) :
    Calls Tryd.prog 167 #[.agg #[pt b 0, vi o_, vi z], vi i] w fun e w' => e = .returned (.tuple #[vi (rrV t i), .agg #[v8 (((rrT t i)).1), v8 (((rrT t i)).2)], vi (rrE t i)]) ∧ Fr w w' no no := by
 have hb : 0 ≤ o_ ∧ 0 ≤ z ∧ o_ + z ≤ 4294967296 := ⟨hR.o0, by have := hR.len; omega, by have h5 := inB_facts (thr_in hR.there); have h4 : m.cap ≤ 1048576 := (by obtain ⟨d, hd⟩ := id hr; exact hd.capLe); omega⟩
 have h_ := tags_Run b F m o_ z i w hr hb hi
 obtain ⟨e1, e2, e3⟩ := hR.run i
 rw [← e1, ← e2, ← e3]
 exact h_

theorem tags_Lay_r (b : Nat) (F : Nat → Prop) (m : AM) (o_ : Int) (z : Int) (i : Int) (a : Int) (s_ : Int) (t : List (Int × Int)) (w : World) (hr : (arR b F m).R w) (hR : TgR m o_ z t) (hs : 0 ≤ s_ ∧ s_ ≤ 255) :
    Calls Tryd.prog 95 #[.agg #[pt b 0, vi o_, vi z], vi i, vi a, v8 s_] w fun e w' => ∃ (F' : Nat → Prop), e = .returned (vi (rlE t i a s_)) ∧ (arR b F' (tgLM m o_ z i a s_)).R w' ∧ Fr w w' F F' := by
 have hb : 0 ≤ o_ ∧ 0 ≤ z ∧ o_ + z ≤ 4294967296 := ⟨hR.o0, by have := hR.len; omega, by have h5 := inB_facts (thr_in hR.there); have h4 : m.cap ≤ 1048576 := (by obtain ⟨d, hd⟩ := id hr; exact hd.capLe); omega⟩
 have h_ := tags_Lay b F m o_ z i a s_ w hr hb hs
 rw [(hR.lay (i := i) (a := a) hs.1).1] at h_
 exact h_

end Go.Proofs.YtindbpffbjhfaaaDoor.K
