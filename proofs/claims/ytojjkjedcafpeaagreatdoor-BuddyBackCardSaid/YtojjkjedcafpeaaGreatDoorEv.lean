/-
  Walks, printed by w2.py.
-/
import Derived.Test.YtojjkjedcafpeaaGreatDoorEz
import Derived.Test.YtojjkjedcafpeaaGreatDoorProg
namespace Go.Proofs.YtojjkjedcafpeaaGreatDoor.K
set_option linter.unusedVariables false
set_option linter.unusedSimpArgs false

set_option maxRecDepth 100000 in
set_option maxHeartbeats 1000000 in
theorem r8_Order0 (a : Int) (w : World) :
    Calls Tryz.prog 61 #[.agg #[vi 1, vi 0, vi 0, vi 0, vnil], vi a] w fun e w' => e = .returned (.tuple #[vi 0, vi 8]) ∧ Fr w w' no no := by
 refine enter (args := [.agg #[vi 1, vi 0, vi 0, vi 0, vnil], vi a]) (D := no) (A := []) Tryz.func61 rfl 22 rfl [] (WS.startL trivial) fun ac hS => ?_
 refine hS.regS [0, 0, 0] [1] fun ν1 => seg [(2, pt (ν1 0) 0)] [(0, some ((ν1 0), .cells [vi 1, vi 0, vi 0, vi 0, vnil] 34))] [] trivial fun ac wd hS => ?_
 refine wp_seq ?_
 refine hS.regS [0, 0, 0, 0] [1] fun _ => seg [(9, vnil), (10, vi 0), (11, vi 0)] [] [.e (ν1 0)] trivial fun ac wd hS => ?_
 refine wp_block ?_
 refine wp_loop_rounds 1 ?_
 refine rounds_in ?_
 refine hS.regS [0] [1, 9, 10, 11] fun _ => seg [(12, vb false)] [] [] trivial fun ac wd hS => ?_
 refine wp_seq ?_
 refine hS.condF ?_
 refine wp_exit ?_
 refine pop_then_exit ?_
 refine pop_then_exit ?_
 refine pop_block_hit ?_
 refine pop_then ?_
 refine hS.regS [0, 0] [] fun _ => seg [(4, vi 0), (5, vi 8)] [] [] trivial fun ac wd hS => ?_
 refine wp_ret ?_
 refine St.retC 0 hS (.tuple #[vi 0, vi 8]) [] trivial fun hw => ?_
 refine ⟨retd rfl, hw.fr0⟩

set_option maxRecDepth 100000 in
set_option maxHeartbeats 1000000 in
theorem r8_Free0 (a : Int) (w : World) :
    Calls Tryz.prog 62 #[.agg #[vi 1, vi 0, vi 0, vi 0, vnil], vi a] w fun e w' => e = .returned (.tuple #[.agg #[vi 1, vi 0, vi 0, vi 0, vnil], vi 8]) ∧ Fr w w' no no := by
 refine enter (args := [.agg #[vi 1, vi 0, vi 0, vi 0, vnil], vi a]) (D := no) (A := []) Tryz.func62 rfl 40 rfl [] (WS.startL trivial) fun ac hS => ?_
 refine hS.regS [0, 0, 0] [1] fun ν1 => seg [(2, pt (ν1 0) 0), (4, pt (ν1 1) 0)] [(0, some ((ν1 0), .cells [vi 1, vi 0, vi 0, vi 0, vnil] 34)), (1, some ((ν1 1), .cells [vi 0, vi 0, vi 0, vi 0, vnil] 34))] [] trivial fun ac wd hS => ?_
 refine wp_region_seq ?_
 refine hS.opsC 2 [0, 0] [1, 2, 4] fun _ => seg [(12, .agg #[vi 1, vi 0, vi 0, vi 0, vnil]), (13, vi a)] [(0, none), (1, none)] [.e (ν1 0), .e (ν1 0), .e (ν1 0), .e (ν1 0), .e (ν1 0)] trivial fun ac wd hS => ?_
 refine hS.call0 61 #[.agg #[vi 1, vi 0, vi 0, vi 0, vnil], vi a] 14 (r8_Order0 a _  ) fun ac wd hS => ?_
 refine hS.opsC 5 [0, 0, 0, 0, 0] [1, 2, 4] fun _ => seg [(7, vi 8)] [(0, none), (1, none)] [] trivial fun ac wd hS => ?_
 refine list_nil_seq ?_
 refine wp_seq ?_
 refine hS.regS [0, 0] [1, 2, 4, 7] fun _ => seg [(18, vb true)] [(0, none), (1, none)] [] trivial fun ac wd hS => ?_
 refine hS.condT ?_
 refine hS.regS [0, 0, 100, 0] [4] fun _ => seg [(5, vi 8)] [(1, some ((ν1 1), .cells [vi 1, vi 0, vi 0, vi 0, vnil] 34))] [.e (ν1 1), .e (ν1 1), .e (ν1 1), .e (ν1 1), .e (ν1 1), .e (ν1 0), .e (ν1 0), .e (ν1 0), .e (ν1 0), .e (ν1 0)] trivial fun ac wd hS => ?_
 refine wp_ret ?_
 refine pop_then_ret ?_
 refine St.retC 0 hS (.tuple #[.agg #[vi 1, vi 0, vi 0, vi 0, vnil], vi 8]) [.e (ν1 1), .e (ν1 1), .e (ν1 1), .e (ν1 1), .e (ν1 1)] trivial fun hw => ?_
 refine ⟨retd rfl, hw.fr0⟩

set_option maxRecDepth 100000 in
set_option maxHeartbeats 1000000 in
theorem r8_free0 (w : World) :
    Calls Tryz.prog 87 #[.agg #[vi 1, vi 0, vi 0, vi 0, vnil]] w fun e w' => ∃ (fv : Value), e = .returned (fv) ∧ Fr w w' no no := by
 refine enter (args := [.agg #[vi 1, vi 0, vi 0, vi 0, vnil]]) (D := no) (A := []) Tryz.func87 rfl 42 rfl [] (WS.startL trivial) fun ac hS => ?_
 refine hS.regS [0, 0] [] fun ν1 => seg [(1, pt (ν1 0) 0)] [(0, some ((ν1 0), .cells [vi 1, vi 0, vi 0, vi 0, vnil] 34))] [] trivial fun ac wd hS => ?_
 refine hS.regS [0, 0, 90, 0] [1] fun ν2 => seg [(3, sc (ν2 0) 0 0 0)] [(0, none), (1, some ((ν2 0), .row 4 0 0 (boolsV (fun _ => false) 0)))] [.p ((0 : Int) = 0), .p ((0 : Int) ≤ 0 ∧ (0 : Int) ≤ 2 ^ 32 ∧ 1 ≤ 64), .e (ν1 0)] ⟨rfl, (by omega), trivial⟩ fun ac wd hS => ?_
 refine wp_seq ?_
 refine hS.regS [0, 0, 0] [1, 3] fun _ => seg [(12, vi 0), (13, vi 0)] [(0, none), (1, none)] [] trivial fun ac wd hS => ?_
 refine wp_block ?_
 refine wp_loop_rounds 1 ?_
 refine rounds_in ?_
 refine hS.regS [0] [1, 3, 12, 13] fun _ => seg [(14, vb false)] [(0, none), (1, none)] [] trivial fun ac wd hS => ?_
 refine wp_seq ?_
 refine hS.condF ?_
 refine wp_exit ?_
 refine pop_then_exit ?_
 refine pop_then_exit ?_
 refine pop_block_hit ?_
 refine pop_then ?_
 refine wp_seq ?_
 refine hS.regS [0, 0, 0, 0] [3] fun _ => seg [(21, vnil), (22, vi 0), (23, vi 0)] [(1, none)] [.e (ν1 0)] trivial fun ac wd hS => ?_
 refine wp_block ?_
 refine wp_loop_rounds 1 ?_
 refine rounds_in ?_
 refine hS.regS [0] [3, 21, 22, 23] fun _ => seg [(24, vb false)] [(0, none)] [] trivial fun ac wd hS => ?_
 refine wp_seq ?_
 refine hS.condF ?_
 refine wp_exit ?_
 refine pop_then_exit ?_
 refine pop_then_exit ?_
 refine pop_block_hit ?_
 refine pop_then ?_
 refine hS.regS [0, 0] [] fun _ => seg [(2, sc (ν2 0) 0 0 0)] [(0, none)] [] trivial fun ac wd hS => ?_
 refine wp_ret ?_
 refine St.retC 0 hS (sc (ν2 0) 0 0 0) [] trivial fun hw => ?_
 refine ⟨sc (ν2 0) 0 0 0, retd ?_, hw.fr0⟩
 all_goals (first | rfl | assumption | (simp; done) | (simp; omega) | omega | (simp_all; done) | (simp_all; omega))

set_option maxRecDepth 100000 in
set_option maxHeartbeats 1000000 in
theorem r8_Runs0 (w : World) :
    Calls Tryz.prog 38 #[.agg #[vi 1, vi 0, vi 0, vi 0, vnil]] w fun e w' => e = .returned (vnil) ∧ Fr w w' no no := by
 refine enter (args := [.agg #[vi 1, vi 0, vi 0, vi 0, vnil]]) (D := no) (A := []) Tryz.func38 rfl 70 rfl [] (WS.startL trivial) fun ac hS => ?_
 refine hS.regS [0, 0] [] fun ν1 => seg [(1, pt (ν1 0) 0)] [(0, some ((ν1 0), .cells [vi 1, vi 0, vi 0, vi 0, vnil] 34))] [] trivial fun ac wd hS => ?_
 refine wp_region_seq ?_
 refine hS.opsC 1 [0] [1] fun _ => seg [(9, .agg #[vi 1, vi 0, vi 0, vi 0, vnil])] [(0, none)] [.e (ν1 0), .e (ν1 0), .e (ν1 0), .e (ν1 0), .e (ν1 0)] trivial fun ac wd hS => ?_
 refine hS.callC 87 #[.agg #[vi 1, vi 0, vi 0, vi 0, vnil]] (r8_free0  _  ) ?_
 rintro _ wd ⟨fv1, rfl, hF⟩
 refine ⟨fv1, rfl, ?_⟩
 replace hS := (hS.to (hS.mem.keep0 hF)).put (d := 10) (v := fv1) (by decide)
 clear hF
 refine hS.opsC 1 [0] [1] fun _ => seg [(3, fv1)] [(0, none)] [] trivial fun ac wd hS => ?_
 refine list_nil_seq ?_
 refine hS.regS [0] [1, 3] fun _ => seg [(4, vnil)] [(0, none)] [] trivial fun ac wd hS => ?_
 refine wp_seq ?_
 refine hS.regS [0] [1, 3, 4] fun _ => seg [(5, vi 0)] [(0, none)] [] trivial fun ac wd hS => ?_
 refine wp_block ?_
 refine wp_loop_rounds 1 ?_
 refine rounds_in ?_
 refine wp_seq ?_
 refine hS.regS [0, 0, 0, 0] [1, 3, 4, 5] fun _ => seg [(14, vb false)] [(0, none)] [.e (ν1 0)] trivial fun ac wd hS => ?_
 refine hS.condF ?_
 refine wp_exit ?_
 refine pop_then_exit ?_
 refine pop_then_exit ?_
 refine pop_block_hit ?_
 refine pop_then ?_
 refine hS.regS [0, 0] [] fun _ => seg [(2, vnil)] [] [] trivial fun ac wd hS => ?_
 refine wp_ret ?_
 refine St.retC 0 hS (vnil) [] trivial fun hw => ?_
 refine ⟨retd rfl, hw.fr0⟩

set_option maxRecDepth 100000 in
set_option maxHeartbeats 1000000 in
theorem r8_Grow0 (k : Int) (w : World) :
    Calls Tryz.prog 63 #[.agg #[vi 1, vi 0, vi 0, vi 0, vnil], vi k] w fun e w' => e = .returned (.tuple #[.agg #[vi 1, vi 0, vi 0, vi 0, vnil], vi (g0E k)]) ∧ Fr w w' no no := by
 refine enter (args := [.agg #[vi 1, vi 0, vi 0, vi 0, vnil], vi k]) (D := no) (A := []) Tryz.func63 rfl 47 rfl [] (WS.startL trivial) fun ac hS => ?_
 refine hS.regS [0, 0, 0] [1] fun ν1 => seg [(2, pt (ν1 0) 0), (4, pt (ν1 1) 0)] [(0, some ((ν1 0), .cells [vi 1, vi 0, vi 0, vi 0, vnil] 34)), (1, some ((ν1 1), .cells [vi 0, vi 0, vi 0, vi 0, vnil] 34))] [] trivial fun ac wd hS => ?_
 refine wp_seq ?_
 refine hS.regS [0, 0, 0, 3, 3, 80] [1, 2, 4] fun _ => seg [(14, vb ((decide ((k : Int) < 0)) || (decide ((10 : Int) < k))))] [(0, none), (1, none)] [] trivial fun ac wd hS => ?_
 refine hS.condC ((decide ((k : Int) < 0)) || (decide ((10 : Int) < k))) (fun hb1o hb1 => ?_) (fun hb1o hb1 => ?_)
 ·
  have hG := g0_1 hb1o
  refine hS.regS [0, 100, 0] [4] fun _ => seg [(5, vi 2)] [(1, some ((ν1 1), .cells [vi 1, vi 0, vi 0, vi 0, vnil] 34))] [.e (ν1 1), .e (ν1 1), .e (ν1 1), .e (ν1 1), .e (ν1 1), .e (ν1 0), .e (ν1 0), .e (ν1 0), .e (ν1 0), .e (ν1 0)] trivial fun ac wd hS => ?_
  refine wp_ret ?_
  refine pop_then_ret ?_
  refine St.retC 0 hS (.tuple #[.agg #[vi 1, vi 0, vi 0, vi 0, vnil], vi 2]) [.e (ν1 1), .e (ν1 1), .e (ν1 1), .e (ν1 1), .e (ν1 1)] trivial fun hw => ?_
  refine ⟨retd (tuple2 rfl (vint ?_)), hw.fr0⟩
  all_goals (first | rfl | exact hG)
 ·
  have hG := g0_2 hb1o
  have hk10 : 0 ≤ k ∧ k ≤ 10 := by omega
  have hpb := pgsN_bd hk10.2
  refine wp_skip ?_
  refine pop_then ?_
  refine wp_region_seq ?_
  refine hS.opsC 1 [0] [2, 4] fun _ => seg [(16, vi k)] [(0, none), (1, none)] [] trivial fun ac wd hS => ?_
  refine hS.call0 88 #[vi k] 17 (r06_Pages k _  (by first | assumption | omega | (simp_all; done) | (simp_all; omega))) fun ac wd hS => ?_
  refine hS.opsC 1 [0] [2, 4] fun _ => seg [(6, vi (pgsN k))] [(0, none), (1, none)] [] trivial fun ac wd hS => ?_
  refine list_nil_seq ?_
  refine hS.regS [0, 0, 0] [2, 4, 6] fun _ => seg [(7, vi 0)] [(0, none), (1, none)] [.e (ν1 0)] trivial fun ac wd hS => ?_
  refine wp_seq ?_
  refine wp_block ?_
  refine wp_loop_rounds 1 ?_
  refine rounds_in ?_
  refine wp_seq ?_
  refine hS.regS [0, 0, 20, 0] [2, 4, 6, 7] fun _ => seg [(23, vb (decide ((0 : Int) < (0 % (pgsN k)))))] [(0, none), (1, none)] [.p (((pgsN k) : Int) ≠ 0 ∧ Int.tmod 0 (pgsN k) = 0 % (pgsN k))] ⟨rem2 (by omega) (by omega), trivial⟩ fun ac wd hS => ?_
  refine hS.condK (decide ((0 : Int) < (0 % (pgsN k)))) false (by exact decide_eq_false (by rw [Int.zero_emod]; decide)) ?_
  show Code.wp _ _ _ _ _
  refine wp_exit ?_
  refine pop_then_exit ?_
  refine pop_then_exit ?_
  refine pop_block_hit ?_
  refine pop_then ?_
  refine wp_seq ?_
  refine hS.regS [0, 0, 20, 0, 0, 0] [2, 4, 6, 7] fun _ => seg [(31, vb (decide ((0 : Int) < (0 + (pgsN k)))))] [(0, none), (1, none)] [.e (ν1 0), .p (fit .i64 (0 + (pgsN k)))] ⟨fit_i64 (by omega), trivial⟩ fun ac wd hS => ?_
  refine hS.condK (decide ((0 : Int) < (0 + (pgsN k)))) true (by exact decide_eq_true (by omega)) ?_
  show Code.wp _ _ _ _ _
  refine hS.regS [0, 100, 0] [4] fun _ => seg [(5, vi 4)] [(1, some ((ν1 1), .cells [vi 1, vi 0, vi 0, vi 0, vnil] 34))] [.e (ν1 1), .e (ν1 1), .e (ν1 1), .e (ν1 1), .e (ν1 1), .e (ν1 0), .e (ν1 0), .e (ν1 0), .e (ν1 0), .e (ν1 0)] trivial fun ac wd hS => ?_
  refine wp_ret ?_
  refine pop_then_ret ?_
  refine St.retC 0 hS (.tuple #[.agg #[vi 1, vi 0, vi 0, vi 0, vnil], vi 4]) [.e (ν1 1), .e (ν1 1), .e (ν1 1), .e (ν1 1), .e (ν1 1)] trivial fun hw => ?_
  refine ⟨retd (tuple2 rfl (vint ?_)), hw.fr0⟩
  all_goals (first | rfl | exact hG)

set_option maxRecDepth 100000 in
set_option maxHeartbeats 1000000 in
theorem r8_find0 (k : Int) (w : World) :
    Calls Tryz.prog 110 #[.agg #[vi 1, vi 0, vi 0, vi 0, vnil], vi k] w fun e w' => e = .returned (vi (-1)) ∧ Fr w w' no no := by
 refine enter (args := [.agg #[vi 1, vi 0, vi 0, vi 0, vnil], vi k]) (D := no) (A := []) Tryz.func110 rfl 36 rfl [] (WS.startL trivial) fun ac hS => ?_
 refine hS.regS [0, 0] [1] fun ν1 => seg [(2, pt (ν1 0) 0)] [(0, some ((ν1 0), .cells [vi 1, vi 0, vi 0, vi 0, vnil] 34))] [] trivial fun ac wd hS => ?_
 refine hS.regS [0, 0, 100] [1, 2] fun ν2 => seg [(5, pt (ν2 0) 0)] [(0, none), (1, some ((ν2 0), .cells [vi (-1), vi 11, vb false] 69))] [.e (ν2 0), .e (ν2 0), .e (ν2 0)] trivial fun ac wd hS => ?_
 refine wp_seq ?_
 refine wp_region_seq ?_
 refine hS.opsC 1 [0] [1, 5] fun _ => seg [(9, .agg #[vi 1, vi 0, vi 0, vi 0, vnil])] [(1, none)] [.e (ν1 0), .e (ν1 0), .e (ν1 0), .e (ν1 0), .e (ν1 0)] trivial fun ac wd hS => ?_
 refine hS.call0 38 #[.agg #[vi 1, vi 0, vi 0, vi 0, vnil]] 10 (r8_Runs0  _  ) fun ac wd hS => ?_
 refine hS.opsC 2 [0, 0] [1, 5, 10] fun _ => seg [(11, vi 0), (12, vi 0)] [(0, none)] [] trivial fun ac wd hS => ?_
 refine list_nil_seq ?_
 refine wp_block ?_
 refine wp_loop_rounds 1 ?_
 refine rounds_in ?_
 refine hS.regS [0] [1, 5, 10, 11, 12] fun _ => seg [(13, vb false)] [(0, none)] [] trivial fun ac wd hS => ?_
 refine wp_seq ?_
 refine hS.condF ?_
 refine wp_exit ?_
 refine pop_then_exit ?_
 refine pop_then_exit ?_
 refine pop_block_hit ?_
 refine pop_then ?_
 refine hS.regS [0, 0, 0] [] fun _ => seg [(4, vi (-1))] [] [.e (ν2 0)] trivial fun ac wd hS => ?_
 refine wp_ret ?_
 refine St.retC 0 hS (vi (-1)) [] trivial fun hw => ?_
 refine ⟨retd rfl, hw.fr0⟩

set_option maxRecDepth 100000 in
set_option maxHeartbeats 1000000 in
theorem r8_Alloc0 (k : Int) (w : World) :
    Calls Tryz.prog 65 #[.agg #[vi 1, vi 0, vi 0, vi 0, vnil], vi k] w fun e w' => e = .returned (.tuple #[.agg #[vi 1, vi 0, vi 0, vi 0, vnil], vi 0, vi (g0E k)]) ∧ Fr w w' no no := by
 refine enter (args := [.agg #[vi 1, vi 0, vi 0, vi 0, vnil], vi k]) (D := no) (A := []) Tryz.func65 rfl 82 rfl [] (WS.startL trivial) fun ac hS => ?_
 refine hS.regS [0, 0, 0, 0] [1] fun ν1 => seg [(2, pt (ν1 0) 0), (4, pt (ν1 1) 0)] [(0, some ((ν1 0), .cells [vi 1, vi 0, vi 0, vi 0, vnil] 34)), (1, some ((ν1 1), .cells [vi 0, vi 0, vi 0, vi 0, vnil] 34))] [] trivial fun ac wd hS => ?_
 refine wp_seq ?_
 refine hS.regS [0, 0, 0, 3, 3, 80] [1, 2, 4] fun _ => seg [(20, vb ((decide ((k : Int) < 0)) || (decide ((10 : Int) < k))))] [(0, none), (1, none)] [] trivial fun ac wd hS => ?_
 refine hS.condC ((decide ((k : Int) < 0)) || (decide ((10 : Int) < k))) (fun hb1o hb1 => ?_) (fun hb1o hb1 => ?_)
 ·
  have hG := g0_1 hb1o
  refine hS.regS [0, 100, 0, 0] [4] fun _ => seg [(5, vi 0), (6, vi 2)] [(1, some ((ν1 1), .cells [vi 1, vi 0, vi 0, vi 0, vnil] 34))] [.e (ν1 1), .e (ν1 1), .e (ν1 1), .e (ν1 1), .e (ν1 1), .e (ν1 0), .e (ν1 0), .e (ν1 0), .e (ν1 0), .e (ν1 0)] trivial fun ac wd hS => ?_
  refine wp_ret ?_
  refine pop_then_ret ?_
  refine St.retC 0 hS (.tuple #[.agg #[vi 1, vi 0, vi 0, vi 0, vnil], vi 0, vi 2]) [.e (ν1 1), .e (ν1 1), .e (ν1 1), .e (ν1 1), .e (ν1 1)] trivial fun hw => ?_
  refine ⟨retd (tuple3 rfl rfl (vint ?_)), hw.fr0⟩
  all_goals (first | rfl | exact hG)
 ·
  have hG := g0_2 hb1o
  refine wp_skip ?_
  refine pop_then ?_
  refine wp_seq ?_
  refine wp_region_seq ?_
  refine hS.opsC 2 [0, 0] [1, 2, 4] fun _ => seg [(22, .agg #[vi 1, vi 0, vi 0, vi 0, vnil]), (23, vi k)] [(0, none), (1, none)] [.e (ν1 0), .e (ν1 0), .e (ν1 0), .e (ν1 0), .e (ν1 0)] trivial fun ac wd hS => ?_
  refine hS.call0 110 #[.agg #[vi 1, vi 0, vi 0, vi 0, vnil], vi k] 24 (r8_find0 k _  ) fun ac wd hS => ?_
  refine hS.opsC 1 [0] [1, 2, 4] fun _ => seg [(25, vb true)] [(0, none), (1, none)] [] trivial fun ac wd hS => ?_
  refine list_nil_seq ?_
  refine hS.condT ?_
  refine wp_region_seq ?_
  refine hS.opsC 2 [0, 0] [1, 2, 4] fun _ => seg [(27, .agg #[vi 1, vi 0, vi 0, vi 0, vnil]), (28, vi k)] [(0, none), (1, none)] [.e (ν1 0), .e (ν1 0), .e (ν1 0), .e (ν1 0), .e (ν1 0)] trivial fun ac wd hS => ?_
  refine hS.call0 63 #[.agg #[vi 1, vi 0, vi 0, vi 0, vnil], vi k] 29 (r8_Grow0 k _  ) fun ac wd hS => ?_
  refine hS.opsC 6 [0, 0, 0, 0, 200, 0] [1, 2, 4] fun ν7 => seg [(7, pt (ν7 0) 0), (8, vi (g0E k))] [(0, none), (1, none), (2, some ((ν7 0), .cells [vi 1, vi 0, vi 0, vi 0, vnil] 34))] [.e (ν7 0), .e (ν7 0), .e (ν7 0), .e (ν7 0), .e (ν7 0)] trivial fun ac wd hS => ?_
  refine list_nil_seq ?_
  refine hS.regS [200, 0] [1, 2, 4, 8] fun _ => seg [] [(0, none), (1, none)] [.e (ν1 0), .e (ν1 0), .e (ν1 0), .e (ν1 0), .e (ν1 0), .e (ν7 0), .e (ν7 0), .e (ν7 0), .e (ν7 0), .e (ν7 0)] trivial fun ac wd hS => ?_
  refine hS.regS [0, 0] [1, 2, 4, 8] fun _ => seg [(34, vb (((g0E k) : Int) != 0))] [(0, none), (1, none)] [] trivial fun ac wd hS => ?_
  refine hS.condK (((g0E k) : Int) != 0) true (by (rw [← hG]; rfl)) ?_
  show Code.wp _ _ _ _ _
  refine hS.regS [0, 0, 100, 0, 0] [4] fun _ => seg [(5, vi 0), (6, vi (g0E k))] [(1, some ((ν1 1), .cells [vi 1, vi 0, vi 0, vi 0, vnil] 34))] [.e (ν1 1), .e (ν1 1), .e (ν1 1), .e (ν1 1), .e (ν1 1), .e (ν1 0), .e (ν1 0), .e (ν1 0), .e (ν1 0), .e (ν1 0)] trivial fun ac wd hS => ?_
  refine wp_ret ?_
  refine pop_then_ret ?_
  refine St.retC 0 hS (.tuple #[.agg #[vi 1, vi 0, vi 0, vi 0, vnil], vi 0, vi (g0E k)]) [.e (ν1 1), .e (ν1 1), .e (ν1 1), .e (ν1 1), .e (ν1 1)] trivial fun hw => ?_
  refine ⟨retd rfl, hw.fr0⟩

set_option maxRecDepth 100000 in
set_option maxHeartbeats 1000000 in
theorem r8_Shrink0 (w : World) :
    Calls Tryz.prog 64 #[.agg #[vi 1, vi 0, vi 0, vi 0, vnil]] w fun e w' => e = .returned (.tuple #[.agg #[vi 1, vi 0, vi 0, vi 0, vnil], vi 0]) ∧ Fr w w' no no := by
 refine enter (args := [.agg #[vi 1, vi 0, vi 0, vi 0, vnil]]) (D := no) (A := []) Tryz.func64 rfl 38 rfl [] (WS.startL trivial) fun ac hS => ?_
 refine hS.regS [0, 0, 0] [] fun ν1 => seg [(1, pt (ν1 0) 0), (2, pt (ν1 1) 0)] [(0, some ((ν1 0), .cells [vi 1, vi 0, vi 0, vi 0, vnil] 34)), (1, some ((ν1 1), .cells [vi 0, vi 0, vi 0, vi 0, vnil] 34))] [] trivial fun ac wd hS => ?_
 refine hS.regS [0, 0, 0] [1, 2] fun _ => seg [(4, vi 0)] [(0, none), (1, none)] [.e (ν1 0)] trivial fun ac wd hS => ?_
 refine wp_region_seq ?_
 refine hS.opsC 1 [0] [1, 2, 4] fun _ => seg [(8, .agg #[vi 1, vi 0, vi 0, vi 0, vnil])] [(0, none), (1, none)] [.e (ν1 0), .e (ν1 0), .e (ν1 0), .e (ν1 0), .e (ν1 0)] trivial fun ac wd hS => ?_
 refine hS.call0 38 #[.agg #[vi 1, vi 0, vi 0, vi 0, vnil]] 9 (r8_Runs0  _  ) fun ac wd hS => ?_
 refine hS.opsC 1 [0] [1, 2, 4] fun _ => seg [(5, vnil)] [(0, none), (1, none)] [] trivial fun ac wd hS => ?_
 refine list_nil_seq ?_
 refine wp_seq ?_
 refine wp_block ?_
 refine wp_loop_rounds 1 ?_
 refine rounds_in ?_
 refine wp_seq ?_
 refine hS.regS [0, 0, 0, 0, 2, 2, 2, 2, 2, 2, 2, 2, 60] [1, 2, 4, 5] fun _ => seg [(22, vb false)] [(0, none), (1, none)] [.t false, .t false, .t false, .t false, .t false, .t false, .t false, .t false, .t false] trivial fun ac wd hS => ?_
 refine hS.condF ?_
 refine wp_exit ?_
 refine pop_then_exit ?_
 refine pop_then_exit ?_
 refine pop_block_hit ?_
 refine pop_then ?_
 refine St.ordBeginS [(0, 1), (1, 1), (2, 1), (3, 1), (4, 1), (5, 0), (6, 1)] [((ν1 0), .cells [vi 1, vi 0, vi 0, vi 0, vnil] 34)] [0] hS fun wd hS => ?_
 have hap := hS.mem.pairs (Hf := [((ν1 0), .cells [vi 1, vi 0, vi 0, vi 0, vnil] 34)]) (l := [0])
 refine St.ordF [0, 0, 0, 0, 0] [0, 1, 2, 3, 4] [2] (rest := [(5, 0), (6, 1)]) hS hap <| segF [(33, .agg #[vi 1, vi 0, vi 0, vi 0, vnil]), (37, vi 0)] [.e (ν1 0), .e (ν1 0), .e (ν1 0), .e (ν1 0), .e (ν1 0), .e (ν1 0)] trivial fun ac hS => ?_
 refine St.ord1 5 [100] [2, 37] [0] hS rfl fun _ => seg [] [(0, none), (1, some ((ν1 1), .cells [vi 1, vi 0, vi 0, vi 0, vnil] 34))] [.e (ν1 1), .e (ν1 1), .e (ν1 1), .e (ν1 1), .e (ν1 1)] trivial ⟨by as_aux_lemma => kernel_rfl, fun ac wd hS => ?_⟩
 refine St.ordF [0] [6] [2] (rest := []) hS hap <| segF [(3, vi 0)] [] trivial fun ac hS => ?_
 refine ord_nil ?_
 refine wp_ret ?_
 refine St.retC 1 hS (.tuple #[.agg #[vi 1, vi 0, vi 0, vi 0, vnil], vi 0]) [.e (ν1 1), .e (ν1 1), .e (ν1 1), .e (ν1 1), .e (ν1 1)] trivial fun hw => ?_
 refine ⟨retd rfl, hw.fr0⟩

end Go.Proofs.YtojjkjedcafpeaaGreatDoor.K
