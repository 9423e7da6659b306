/-
  Walks, printed by w2.py.
-/
import Derived.Test.YtnbkafnikpbmbaaDoorHb
import Derived.Test.YtnbkafnikpbmbaaDoorProg
namespace Go.Proofs.YtnbkafnikpbmbaaDoor.K
set_option linter.unusedVariables false
set_option linter.unusedSimpArgs false

set_option maxRecDepth 100000 in
set_option maxHeartbeats 1000000 in
theorem h_Open (b : Nat) (o_ : Int) (z : Int) (w : World) :
    Calls Tryd.prog 115 #[.agg #[pt b 0, vi o_, vi z]] w fun e w' => e = .returned (.agg #[pt b 0, vi o_, vi z]) ∧ Fr w w' no no := by
 refine enter (args := [.agg #[pt b 0, vi o_, vi z]]) (D := no) (A := []) Tryd.func115 rfl 5 rfl [] (WS.startL trivial) fun ac hS => ?_
 refine hS.regS [0, 0] [] fun ν1 => seg [(1, pt (ν1 0) 0), (2, pt (ν1 1) 0)] [(0, some ((ν1 0), .cells [pt b 0, vi o_, vi z] 72)), (1, some ((ν1 1), .cells [pnil, vi 0, vi 0] 74))] [] trivial fun ac wd hS => ?_
 refine hS.regS [0, 0, 100] [2] fun _ => seg [] [(1, some ((ν1 1), .cells [pt b 0, vi o_, vi z] 74))] [.e (ν1 1), .e (ν1 1), .e (ν1 1), .e (ν1 0), .e (ν1 0), .e (ν1 0)] trivial fun ac wd hS => ?_
 refine wp_ret ?_
 refine St.retC 0 hS (.agg #[pt b 0, vi o_, vi z]) [.e (ν1 1), .e (ν1 1), .e (ν1 1)] trivial fun hw => ?_
 refine ⟨retd rfl, hw.fr0⟩

set_option maxRecDepth 100000 in
set_option maxHeartbeats 1000000 in
theorem h_Len (b : Nat) (o_ : Int) (z : Int) (w : World) (ho : 0 ≤ o_ ∧ 0 ≤ z ∧ o_ + z ≤ 4294967296) :
    Calls Tryd.prog 121 #[.agg #[pt b 0, vi o_, vi z]] w fun e w' => e = .returned (vi (hLen z)) ∧ Fr w w' no no := by
 have hln := hLen_bd (z := z) (by omega)
 refine enter (args := [.agg #[pt b 0, vi o_, vi z]]) (D := no) (A := []) Tryd.func121 rfl 8 rfl [] (WS.startL trivial) fun ac hS => ?_
 refine hS.regS [0, 0] [] fun ν1 => seg [(1, pt (ν1 0) 0)] [(0, some ((ν1 0), .cells [pt b 0, vi o_, vi z] 74))] [] trivial fun ac wd hS => ?_
 refine wp_region_seq ?_
 refine hS.opsC 2 [0, 0] [] fun _ => seg [(4, .agg #[pt b 0, vi o_, vi z])] [] [.e (ν1 0), .e (ν1 0), .e (ν1 0)] trivial fun ac wd hS => ?_
 refine hS.call0 62 #[.agg #[pt b 0, vi o_, vi z]] 5 (vw_Size b o_ z _  ) fun ac wd hS => ?_
 refine hS.opsC 3 [20, 0, 0] [] fun _ => seg [(2, vi (imin (z / 16) 256))] [] [.p ((16 : Int) ≠ 0 ∧ IntKind.i64.wrap (Int.tdiv z 16) = z / 16)] ⟨quo2 (by omega) (by omega) (by omega), trivial⟩ fun ac wd hS => ?_
 refine list_nil_seq ?_
 refine wp_ret ?_
 refine St.retC 0 hS (vi (imin (z / 16) 256)) [] trivial fun hw => ?_
 refine ⟨retd (vint ?_), hw.fr0⟩
 all_goals (rfl)

set_option maxRecDepth 100000 in
set_option maxHeartbeats 1000000 in
theorem h_get (b : Nat) (F : Nat → Prop) (m : AM) (o_ : Int) (z : Int) (i : Int) (w : World) (hr : (arR b F m).R w) (ho : 0 ≤ o_ ∧ 0 ≤ z ∧ o_ + z ≤ 4294967296) (hi : 0 ≤ i ∧ i ≤ 256) :
    Calls Tryd.prog 122 #[.agg #[pt b 0, vi o_, vi z], vi i] w fun e w' => e = .returned (.tuple #[vi (hAt m o_ z i), vu (hGn m o_ z i)]) ∧ Fr w w' no no := by
 have hln := hLen_bd (z := z) (by omega)
 refine enter (args := [.agg #[pt b 0, vi o_, vi z], vi i]) (D := no) (A := []) Tryd.func122 rfl 30 rfl [] (WS.startL trivial) fun ac hS => ?_
 refine hS.regS [0, 0, 0] [1] fun ν1 => seg [(2, pt (ν1 0) 0)] [(0, some ((ν1 0), .cells [pt b 0, vi o_, vi z] 74))] [] trivial fun ac wd hS => ?_
 refine wp_region_seq ?_
 refine hS.opsC 4 [0, 0, 0, 20] [1, 2] fun _ => seg [(12, .agg #[pt b 0, vi o_, vi z]), (14, vi (i * 16))] [(0, none)] [.p (fit .i64 (i * 16)), .e (ν1 0), .e (ν1 0), .e (ν1 0)] ⟨fit_i64 (by omega), trivial⟩ fun ac wd hS => ?_
 refine hS.call0 132 #[.agg #[pt b 0, vi o_, vi z], vi (i * 16), vi 8] 15 (vw_Load b F m o_ z (i * 16) 8 _ (Res.keep hr hS.mem.fr) (by first | assumption | omega | (simp_all; done) | (simp_all; omega))) fun ac wd hS => ?_
 refine hS.opsC 5 [0, 0, 0, 0, 0] [1, 2] fun _ => seg [(6, vu (vldV m o_ z (i * 16) 8))] [(0, none)] [] trivial fun ac wd hS => ?_
 refine list_nil_seq ?_
 refine wp_region_seq ?_
 refine hS.opsC 5 [0, 0, 0, 20, 20] [6] fun _ => seg [(20, .agg #[pt b 0, vi o_, vi z]), (23, vi ((i * 16) + 8))] [] [.p (fit .i64 ((i * 16) + 8)), .p (fit .i64 (i * 16)), .e (ν1 0), .e (ν1 0), .e (ν1 0)] ⟨fit_i64 (by omega), fit_i64 (by omega), trivial⟩ fun ac wd hS => ?_
 refine hS.call0 132 #[.agg #[pt b 0, vi o_, vi z], vi ((i * 16) + 8), vi 8] 24 (vw_Load b F m o_ z ((i * 16) + 8) 8 _ (Res.keep hr hS.mem.fr) (by first | assumption | omega | (simp_all; done) | (simp_all; omega))) fun ac wd hS => ?_
 refine hS.opsC 5 [0, 0, 0, 0, 0] [6] fun _ => seg [(8, vu (vldV m o_ z ((i * 16) + 8) 8))] [] [] trivial fun ac wd hS => ?_
 refine list_nil_seq ?_
 refine hS.regS [0, 0, 0, 0, 0] [] fun _ => seg [(4, vi (IntKind.wrap .i64 (vldV m o_ z (i * 16) 8))), (5, vu (vldV m o_ z ((i * 16) + 8) 8))] [] [] trivial fun ac wd hS => ?_
 refine wp_ret ?_
 refine St.retC 0 hS (.tuple #[vi (IntKind.wrap .i64 (vldV m o_ z (i * 16) 8)), vu (vldV m o_ z ((i * 16) + 8) 8)]) [] trivial fun hw => ?_
 refine ⟨retd (tuple2 (vint ?_) (vint ?_)), hw.fr0⟩
 all_goals (rfl)

set_option maxRecDepth 100000 in
set_option maxHeartbeats 1000000 in
theorem h_set (b : Nat) (F : Nat → Prop) (m : AM) (o_ : Int) (z : Int) (i : Int) (a : Int) (w : World) (hr : (arR b F m).R w) (ho : 0 ≤ o_ ∧ 0 ≤ z ∧ o_ + z ≤ 4294967296) (hi : 0 ≤ i ∧ i ≤ 256) :
    Calls Tryd.prog 118 #[.agg #[pt b 0, vi o_, vi z], vi i, vi a] w fun e w' => ∃ (F' : Nat → Prop), e = .returned (.tuple #[]) ∧ (arR b F' (hSetM m o_ z i a)).R w' ∧ Fr w w' F F' := by
 have hln := hLen_bd (z := z) (by omega)
 refine enter (args := [.agg #[pt b 0, vi o_, vi z], vi i, vi a]) (D := F) (A := [arR b F m]) Tryd.func118 rfl 13 rfl [] (WS.startA (r := arR b F m) hr trivial trivial) fun ac hS => ?_
 refine hS.regS [0] [1, 2] fun ν1 => seg [(3, pt (ν1 0) 0)] [(0, some ((ν1 0), .cells [pt b 0, vi o_, vi z] 74))] [] trivial fun ac wd hS => ?_
 refine wp_region_lit ?_
 refine hS.opsC 6 [0, 0, 0, 20, 0, 0] [] fun _ => seg [(7, .agg #[pt b 0, vi o_, vi z]), (9, vi (i * 16)), (11, vu (IntKind.wrap .u64 a))] [] [.p (fit .i64 (i * 16)), .e (ν1 0), .e (ν1 0), .e (ν1 0)] ⟨fit_i64 (by omega), trivial⟩ fun ac wd hS => ?_
 refine hS.callC 119 #[.agg #[pt b 0, vi o_, vi z], vi (i * 16), vi 8, vu (IntKind.wrap .u64 a)] (vw_Store b F m o_ z (i * 16) 8 (IntKind.wrap .u64 a) _ (hS.mem.res 0) (by first | assumption | omega | (simp_all; done) | (simp_all; omega))) ?_
 rintro _ wd ⟨F1, rfl, hA, hF⟩
 refine ⟨vi (vstE m o_ z (i * 16) 8), rfl, ?_⟩
 replace hS := (hS.to (hS.mem.stepA 0 rfl hA hF)).put (d := 12) (v := vi (vstE m o_ z (i * 16) 8)) (by decide)
 clear hF
 refine list_nil ?_
 refine St.fallC 0 hS (.tuple #[]) [] trivial fun hw => ?_
 refine ⟨F1, retd rfl, (res_eq (r := arR b F1 (vstM m o_ z (i * 16) 8 (IntKind.wrap .u64 a))) (by rfl) (hw.res 0)), hw.frA⟩

set_option maxRecDepth 100000 in
set_option maxHeartbeats 1000000 in
theorem h_check (b : Nat) (o_ : Int) (z : Int) (a : Int) (w : World) (ho : 0 ≤ o_ ∧ 0 ≤ z ∧ o_ + z ≤ 4294967296) :
    Calls Tryd.prog 116 #[.agg #[pt b 0, vi o_, vi z], vi a] w fun e w' => e = .returned (vi (if a < 1 then 2 else 0)) ∧ Fr w w' no no := by
 have hln := hLen_bd (z := z) (by omega)
 refine enter (args := [.agg #[pt b 0, vi o_, vi z], vi a]) (D := no) (A := []) Tryd.func116 rfl 13 rfl [] (WS.startL trivial) fun ac hS => ?_
 refine hS.regS [0, 0] [1] fun ν1 => seg [(2, pt (ν1 0) 0)] [(0, some ((ν1 0), .cells [pt b 0, vi o_, vi z] 74))] [] trivial fun ac wd hS => ?_
 refine wp_seq ?_
 refine wp_block ?_
 refine hS.regS [0, 0, 0, 0, 0] [1] fun _ => seg [(5, vb false)] [] [.e (ν1 0)] trivial fun ac wd hS => ?_
 refine hS.condF ?_
 refine hS.regS [0, 0, 0] [] fun _ => seg [(10, vb (decide ((a : Int) < 1)))] [] [] trivial fun ac wd hS => ?_
 refine hS.condC (decide ((a : Int) < 1)) (fun hb1o hb1 => ?_) (fun hb1o hb1 => ?_)
 ·
  refine hS.regS [0] [] fun _ => seg [(4, vi 2)] [] [] trivial fun ac wd hS => ?_
  refine wp_ret ?_
  refine pop_block_ret ?_
  refine pop_then_ret ?_
  refine St.retC 0 hS (vi 2) [] trivial fun hw => ?_
  refine ⟨retd (vint ?_), hw.fr0⟩
  all_goals (first | (rw [if_pos (by omega)]) | (rw [if_neg (by omega)]))
 ·
  refine wp_skip ?_
  refine pop_block ?_
  refine pop_then ?_
  refine hS.regS [0] [] fun _ => seg [(4, vi 0)] [] [] trivial fun ac wd hS => ?_
  refine wp_ret ?_
  refine St.retC 0 hS (vi 0) [] trivial fun hw => ?_
  refine ⟨retd (vint ?_), hw.fr0⟩
  all_goals (first | (rw [if_pos (by omega)]) | (rw [if_neg (by omega)]))

set_option maxRecDepth 100000 in
set_option maxHeartbeats 1000000 in
theorem h_Next (b : Nat) (F : Nat → Prop) (m : AM) (o_ : Int) (z : Int) (w : World) (hr : (arR b F m).R w) (ho : 0 ≤ o_ ∧ 0 ≤ z ∧ o_ + z ≤ 4294967296) :
    Calls Tryd.prog 117 #[.agg #[pt b 0, vi o_, vi z]] w fun e w' => e = .returned (.tuple #[vu (hNxV m o_ z), vi (hNxE m o_ z)]) ∧ Fr w w' no no := by
 have hln := hLen_bd (z := z) (by omega)
 refine enter (args := [.agg #[pt b 0, vi o_, vi z]]) (D := no) (A := []) Tryd.func117 rfl 35 rfl [] (WS.startL trivial) fun ac hS => ?_
 refine hS.regS [0, 0, 0] [] fun ν1 => seg [(1, pt (ν1 0) 0)] [(0, some ((ν1 0), .cells [pt b 0, vi o_, vi z] 74))] [] trivial fun ac wd hS => ?_
 refine wp_seq ?_
 refine hS.regS [0, 0, 0, 0] [1] fun _ => seg [(10, vb false)] [(0, none)] [.e (ν1 0)] trivial fun ac wd hS => ?_
 refine hS.condF ?_
 refine wp_skip ?_
 refine pop_then ?_
 refine wp_seq ?_
 refine wp_region_seq ?_
 refine hS.opsC 1 [0] [1] fun _ => seg [(11, .agg #[pt b 0, vi o_, vi z])] [(0, none)] [.e (ν1 0), .e (ν1 0), .e (ν1 0)] trivial fun ac wd hS => ?_
 refine hS.call0 121 #[.agg #[pt b 0, vi o_, vi z]] 12 (h_Len b o_ z _  (by first | assumption | omega | (simp_all; done) | (simp_all; omega))) fun ac wd hS => ?_
 refine hS.opsC 1 [0] [1, 12] fun _ => seg [(13, vi 0)] [(0, none)] [] trivial fun ac wd hS => ?_
 refine list_nil_seq ?_
 refine wp_block ?_
 refine St.loopC (σ := Int) (fun (x13 : Int) => ⟨[(1, [], pt (ν1 0) 0), (12, [], vi (hLen z)), (13, [], vi x13)], [((ν1 0), .cells [pt b 0, vi o_, vi z] 74)], [], (0 ≤ x13 ∧ x13 ≤ hLen z) ∧ (NoUp (hFree m o_ z) x13) ∧ True, Int.toNat (hLen z - x13)⟩) 0 ⟨(by first | omega | exact noUp_zero _), (by first | omega | exact noUp_zero _), trivial⟩ hS ?_
 clear hS
 rintro x13 ⟨i0, i1, -⟩ ac wd hS
 replace i0 : 0 ≤ x13 ∧ x13 ≤ hLen z := i0
 replace i1 : NoUp (hFree m o_ z) x13 := i1
 refine hS.regS [0] [1, 12, 13] fun _ => seg [(14, vb (decide ((x13 : Int) < (hLen z))))] [(0, none)] [] trivial fun ac wd hS => ?_
 refine wp_seq ?_
 refine hS.condC (decide ((x13 : Int) < (hLen z))) (fun hb1o hb1 => ?_) (fun hb1o hb1 => ?_)
 ·
  refine wp_skip ?_
  refine pop_then ?_
  refine wp_seq ?_
  refine wp_block ?_
  refine hS.regS [0, 0] [1, 12, 13] fun _ => seg [(4, vi x13)] [(0, none)] [] trivial fun ac wd hS => ?_
  refine wp_region_seq ?_
  refine hS.opsC 2 [0, 0] [1, 4, 12, 13] fun _ => seg [(17, .agg #[pt b 0, vi o_, vi z]), (18, vi x13)] [(0, none)] [.e (ν1 0), .e (ν1 0), .e (ν1 0)] trivial fun ac wd hS => ?_
  refine hS.call0 122 #[.agg #[pt b 0, vi o_, vi z], vi x13] 19 (h_get b F m o_ z x13 _ (Res.keep hr hS.mem.fr) (by first | assumption | omega | (simp_all; done) | (simp_all; omega)) (by first | assumption | omega | (simp_all; done) | (simp_all; omega))) fun ac wd hS => ?_
  refine hS.opsC 5 [0, 0, 0, 0, 0] [1, 4, 12, 13] fun _ => seg [(5, vi (hAt m o_ z x13)), (6, vu (hGn m o_ z x13))] [(0, none)] [] trivial fun ac wd hS => ?_
  refine list_nil_seq ?_
  refine hS.regS [0, 0, 0, 3, 3, 80] [1, 4, 6, 12, 13] fun _ => seg [(27, vb ((((hAt m o_ z x13) : Int) == 0) && (decide (((hGn m o_ z x13) : Int) < 72057594037927935))))] [(0, none)] [] trivial fun ac wd hS => ?_
  refine hS.condC ((((hAt m o_ z x13) : Int) == 0) && (decide (((hGn m o_ z x13) : Int) < 72057594037927935))) (fun hb2o hb2 => ?_) (fun hb2o hb2 => ?_)
  ·
   have hfr := hb2o
   have hR := hNx_at i1 i0.1 (by omega) hfr
   refine hS.regS [0, 0, 0, 0, 0, 0, 0, 0] [] fun _ => seg [(2, vu (IntKind.wrap .u64 ((IntKind.wrap .u64 ((IntKind.wrap .u64 ((hGn m o_ z x13) + 1)) * 256)) + (IntKind.wrap .u64 x13)))), (3, vi 0)] [] [] trivial fun ac wd hS => ?_
   refine wp_ret ?_
   refine pop_block_ret ?_
   refine pop_then_ret ?_
   refine pop_then_ret ?_
   refine pop_block_ret ?_
   refine pop_then_ret ?_
   refine St.retC 0 hS (.tuple #[vu (IntKind.wrap .u64 ((IntKind.wrap .u64 ((IntKind.wrap .u64 ((hGn m o_ z x13) + 1)) * 256)) + (IntKind.wrap .u64 x13))), vi 0]) [] trivial fun hw => ?_
   refine ⟨retd (tuple2 (vint ?_) (vint ?_)), hw.fr0⟩
   all_goals (first | exact hR.1 | exact hR.2 | exact (hNx_none i1 (by omega) i0.1).1 | exact (hNx_none i1 (by omega) i0.1).2)
  ·
   have hfr := hb2o
   refine wp_skip ?_
   refine pop_block ?_
   refine pop_then ?_
   refine hS.regC [20, 0] [1, 12] fun _ => seg [(13, vi (x13 + 1))] [(0, none)] [.p (fit .i64 (x13 + 1))] ⟨fit_i64 (by omega), trivial⟩ fun ac wd hS => ?_
   exact pop_then (hS.next (x13 + 1) ⟨(by first | omega | assumption | (simp; done) | (simp; omega)), (by exact hNx_step i1 i0.1 hfr), trivial⟩ (by dsimp only; omega))
 ·
  refine wp_exit ?_
  refine pop_then_exit ?_
  refine pop_then_exit ?_
  refine pop_block_hit ?_
  refine pop_then ?_
  refine hS.regS [0, 0] [] fun _ => seg [(2, vu 0), (3, vi 10)] [] [] trivial fun ac wd hS => ?_
  refine wp_ret ?_
  refine St.retC 0 hS (.tuple #[vu 0, vi 10]) [] trivial fun hw => ?_
  refine ⟨retd (tuple2 (vint ?_) (vint ?_)), hw.fr0⟩
  all_goals (first | exact hR.1 | exact hR.2 | exact (hNx_none i1 (by omega) i0.1).1 | exact (hNx_none i1 (by omega) i0.1).2)

set_option maxRecDepth 100000 in
set_option maxHeartbeats 1000000 in
theorem h_find (b : Nat) (F : Nat → Prop) (m : AM) (o_ : Int) (z : Int) (h : Int) (w : World) (hr : (arR b F m).R w) (ho : 0 ≤ o_ ∧ 0 ≤ z ∧ o_ + z ≤ 4294967296) (hh : 0 ≤ h ∧ h ≤ 18446744073709551615) :
    Calls Tryd.prog 120 #[.agg #[pt b 0, vi o_, vi z], vu h] w fun e w' => e = .returned (.tuple #[vi (hfI m o_ z h), vi (hfA m o_ z h), vi (hfE m o_ z h)]) ∧ Fr w w' no no := by
 have hln := hLen_bd (z := z) (by omega)
 refine enter (args := [.agg #[pt b 0, vi o_, vi z], vu h]) (D := no) (A := []) Tryd.func120 rfl 37 rfl [] (WS.startL trivial) fun ac hS => ?_
 refine hS.regS [0, 0, 0, 0] [1] fun ν1 => seg [(2, pt (ν1 0) 0)] [(0, some ((ν1 0), .cells [pt b 0, vi o_, vi z] 74))] [] trivial fun ac wd hS => ?_
 refine wp_seq ?_
 refine hS.regS [0, 0, 0, 0] [1, 2] fun _ => seg [(13, vb false)] [(0, none)] [.e (ν1 0)] trivial fun ac wd hS => ?_
 refine hS.condF ?_
 refine wp_skip ?_
 refine pop_then ?_
 refine hS.regS [0, 20, 20, 0] [1, 2] fun _ => seg [(7, vi (h % 256))] [(0, none)] [.p (fit .i64 (h % 256)), .p ((256 : Int) ≠ 0 ∧ Int.tmod h 256 = h % 256)] ⟨fit_i64 (by omega), rem2 (by omega) (by omega), trivial⟩ fun ac wd hS => ?_
 refine wp_seq ?_
 refine wp_region_seq ?_
 refine hS.opsC 2 [0, 0] [1, 2, 7] fun _ => seg [(17, vi (h % 256)), (18, .agg #[pt b 0, vi o_, vi z])] [(0, none)] [.e (ν1 0), .e (ν1 0), .e (ν1 0)] trivial fun ac wd hS => ?_
 refine hS.call0 121 #[.agg #[pt b 0, vi o_, vi z]] 19 (h_Len b o_ z _  (by first | assumption | omega | (simp_all; done) | (simp_all; omega))) fun ac wd hS => ?_
 refine hS.opsC 1 [0] [1, 2, 7] fun _ => seg [(20, vb (decide (((hLen z) : Int) ≤ (h % 256))))] [(0, none)] [] trivial fun ac wd hS => ?_
 refine list_nil_seq ?_
 refine hS.condC (decide (((hLen z) : Int) ≤ (h % 256))) (fun hb1o hb1 => ?_) (fun hb1o hb1 => ?_)
 ·
  have hno : hfOk m o_ z h = false := by unfold hfOk; rw [decide_eq_false (by omega)]; rfl
  refine hS.regS [0, 0, 0] [] fun _ => seg [(4, vi 0), (5, vi 0), (6, vi 6)] [] [] trivial fun ac wd hS => ?_
  refine wp_ret ?_
  refine pop_then_ret ?_
  refine St.retC 0 hS (.tuple #[vi 0, vi 0, vi 6]) [] trivial fun hw => ?_
  refine ⟨retd (tuple3 (vint ?_) (vint ?_) (vint ?_)), hw.fr0⟩
  all_goals (first | exact (hf_no hno).1 | exact (hf_no hno).2.1 | exact (hf_no hno).2.2 | exact (hf_yes hye).1 | exact (hf_yes hye).2.1 | exact (hf_yes hye).2.2)
 ·
  have hil : h % 256 < hLen z := by omega
  refine wp_skip ?_
  refine pop_then ?_
  refine wp_region_seq ?_
  refine hS.opsC 2 [0, 0] [1, 7] fun _ => seg [(22, .agg #[pt b 0, vi o_, vi z]), (23, vi (h % 256))] [] [.e (ν1 0), .e (ν1 0), .e (ν1 0)] trivial fun ac wd hS => ?_
  refine hS.call0 122 #[.agg #[pt b 0, vi o_, vi z], vi (h % 256)] 24 (h_get b F m o_ z (h % 256) _ (Res.keep hr hS.mem.fr) (by first | assumption | omega | (simp_all; done) | (simp_all; omega)) (by first | assumption | omega | (simp_all; done) | (simp_all; omega))) fun ac wd hS => ?_
  refine hS.opsC 5 [0, 0, 0, 0, 0] [1, 7] fun _ => seg [(8, vi (hAt m o_ z (h % 256))), (9, vu (hGn m o_ z (h % 256)))] [] [] trivial fun ac wd hS => ?_
  refine list_nil_seq ?_
  refine wp_seq ?_
  refine hS.regS [0, 0, 0, 3, 23, 3, 3, 80] [7, 8] fun _ => seg [(34, vb ((((hAt m o_ z (h % 256)) : Int) == 0) || (((h / 256) : Int) != (hGn m o_ z (h % 256)))))] [] [.p ((((((hAt m o_ z (h % 256)) : Int) == 0) = false) ∧ True) → AllP [(256 : Int) ≠ 0 ∧ IntKind.u64.wrap (Int.tdiv h 256) = h / 256])] ⟨(fun ⟨hc0, _⟩ => by replace hc0 := nrm hc0; exact ⟨quo2_u64 (by omega) (by omega) (by omega), trivial⟩), trivial⟩ fun ac wd hS => ?_
  refine hS.condC ((((hAt m o_ z (h % 256)) : Int) == 0) || (((h / 256) : Int) != (hGn m o_ z (h % 256)))) (fun hb2o hb2 => ?_) (fun hb2o hb2 => ?_)
  ·
   have hno : hfOk m o_ z h = false := by unfold hfOk; rw [hb2o, decide_eq_true hil]; rfl
   refine hS.regS [0, 0, 0] [] fun _ => seg [(4, vi 0), (5, vi 0), (6, vi 6)] [] [] trivial fun ac wd hS => ?_
   refine wp_ret ?_
   refine pop_then_ret ?_
   refine St.retC 0 hS (.tuple #[vi 0, vi 0, vi 6]) [] trivial fun hw => ?_
   refine ⟨retd (tuple3 (vint ?_) (vint ?_) (vint ?_)), hw.fr0⟩
   all_goals (first | exact (hf_no hno).1 | exact (hf_no hno).2.1 | exact (hf_no hno).2.2 | exact (hf_yes hye).1 | exact (hf_yes hye).2.1 | exact (hf_yes hye).2.2)
  ·
   have hye : hfOk m o_ z h = true := by unfold hfOk; rw [hb2o, decide_eq_true hil]; rfl
   refine wp_skip ?_
   refine pop_then ?_
   refine hS.regS [0, 0, 0, 0, 0] [] fun _ => seg [(4, vi (h % 256)), (5, vi (hAt m o_ z (h % 256))), (6, vi 0)] [] [] trivial fun ac wd hS => ?_
   refine wp_ret ?_
   refine St.retC 0 hS (.tuple #[vi (h % 256), vi (hAt m o_ z (h % 256)), vi 0]) [] trivial fun hw => ?_
   refine ⟨retd (tuple3 (vint ?_) (vint ?_) (vint ?_)), hw.fr0⟩
   all_goals (first | exact (hf_no hno).1 | exact (hf_no hno).2.1 | exact (hf_no hno).2.2 | exact (hf_yes hye).1 | exact (hf_yes hye).2.1 | exact (hf_yes hye).2.2)

set_option maxRecDepth 100000 in
set_option maxHeartbeats 1000000 in
theorem h_Get (b : Nat) (F : Nat → Prop) (m : AM) (o_ : Int) (z : Int) (h : Int) (w : World) (hr : (arR b F m).R w) (ho : 0 ≤ o_ ∧ 0 ≤ z ∧ o_ + z ≤ 4294967296) (hh : 0 ≤ h ∧ h ≤ 18446744073709551615) :
    Calls Tryd.prog 40 #[.agg #[pt b 0, vi o_, vi z], vu h] w fun e w' => e = .returned (.tuple #[vi (hfA m o_ z h), vi (hfE m o_ z h)]) ∧ Fr w w' no no := by
 have hln := hLen_bd (z := z) (by omega)
 refine enter (args := [.agg #[pt b 0, vi o_, vi z], vu h]) (D := no) (A := []) Tryd.func40 rfl 18 rfl [] (WS.startL trivial) fun ac hS => ?_
 refine hS.regS [0, 0, 0] [1] fun ν1 => seg [(2, pt (ν1 0) 0)] [(0, some ((ν1 0), .cells [pt b 0, vi o_, vi z] 74))] [] trivial fun ac wd hS => ?_
 refine wp_region_seq ?_
 refine hS.opsC 2 [0, 0] [] fun _ => seg [(10, .agg #[pt b 0, vi o_, vi z]), (11, vu h)] [] [.e (ν1 0), .e (ν1 0), .e (ν1 0)] trivial fun ac wd hS => ?_
 refine hS.call0 120 #[.agg #[pt b 0, vi o_, vi z], vu h] 12 (h_find b F m o_ z h _ (Res.keep hr hS.mem.fr) (by first | assumption | omega | (simp_all; done) | (simp_all; omega)) (by first | assumption | omega | (simp_all; done) | (simp_all; omega))) fun ac wd hS => ?_
 refine hS.opsC 7 [0, 0, 0, 0, 0, 0, 0] [] fun _ => seg [(7, vi (hfA m o_ z h)), (8, vi (hfE m o_ z h))] [] [] trivial fun ac wd hS => ?_
 refine list_nil_seq ?_
 refine hS.regS [0, 0, 0, 0] [] fun _ => seg [(4, vi (hfA m o_ z h)), (5, vi (hfE m o_ z h))] [] [] trivial fun ac wd hS => ?_
 refine wp_ret ?_
 refine St.retC 0 hS (.tuple #[vi (hfA m o_ z h), vi (hfE m o_ z h)]) [] trivial fun hw => ?_
 refine ⟨retd rfl, hw.fr0⟩

set_option maxRecDepth 100000 in
set_option maxHeartbeats 1000000 in
theorem h_New (b : Nat) (F : Nat → Prop) (m : AM) (o_ : Int) (z : Int) (a : Int) (w : World) (hr : (arR b F m).R w) (ho : 0 ≤ o_ ∧ 0 ≤ z ∧ o_ + z ≤ 4294967296) :
    Calls Tryd.prog 38 #[.agg #[pt b 0, vi o_, vi z], vi a] w fun e w' => ∃ (F' : Nat → Prop), e = .returned (.tuple #[vu (hNwV m o_ z a), vi (hNwE m o_ z a)]) ∧ (arR b F' (hNwM m o_ z a)).R w' ∧ Fr w w' F F' := by
 have hln := hLen_bd (z := z) (by omega)
 have hnv := hNxV_rng m o_ z
 refine enter (args := [.agg #[pt b 0, vi o_, vi z], vi a]) (D := F) (A := [arR b F m]) Tryd.func38 rfl 40 rfl [] (WS.startA (r := arR b F m) hr trivial trivial) fun ac hS => ?_
 refine hS.regS [0, 0, 0] [1] fun ν1 => seg [(2, pt (ν1 0) 0)] [(0, some ((ν1 0), .cells [pt b 0, vi o_, vi z] 74))] [] trivial fun ac wd hS => ?_
 refine wp_seq ?_
 refine wp_region_seq ?_
 refine hS.opsC 2 [0, 0] [1, 2] fun _ => seg [(10, .agg #[pt b 0, vi o_, vi z]), (11, vi a)] [(0, none)] [.e (ν1 0), .e (ν1 0), .e (ν1 0)] trivial fun ac wd hS => ?_
 refine hS.call0 116 #[.agg #[pt b 0, vi o_, vi z], vi a] 12 (h_check b o_ z a _  (by first | assumption | omega | (simp_all; done) | (simp_all; omega))) fun ac wd hS => ?_
 refine hS.opsC 1 [0] [1, 2] fun _ => seg [(6, vi (if a < 1 then 2 else 0))] [(0, none)] [] trivial fun ac wd hS => ?_
 refine list_nil_seq ?_
 refine hS.regS [0, 0] [1, 2, 6] fun _ => seg [(14, vb (((if a < 1 then 2 else 0) : Int) != 0))] [(0, none)] [] trivial fun ac wd hS => ?_
 refine hS.condC (((if a < 1 then 2 else 0) : Int) != 0) (fun hb1o hb1 => ?_) (fun hb1o hb1 => ?_)
 ·
  have ha : a < 1 := by have := hb1; (split at this <;> omega)
  refine hS.regS [0, 0, 0] [] fun _ => seg [(4, vu 0), (5, vi (if a < 1 then 2 else 0))] [] [] trivial fun ac wd hS => ?_
  refine wp_ret ?_
  refine pop_then_ret ?_
  refine St.retC 0 hS (.tuple #[vu 0, vi (if a < 1 then 2 else 0)]) [] trivial fun hw => ?_
  refine ⟨F, retd (tuple2 (vint ?_) (vint ?_)), (res_eq (r := arR b F m) (by first | (unfold hNwM; rw [if_pos ha]; done) | (unfold hNwM; rw [if_neg ha, if_neg hx]; done) | (unfold hNwM; rw [if_neg ha, if_pos hx]; done)) (hw.res 0)), hw.frA⟩
  all_goals (first | (unfold hNwV; rw [if_pos ha]; done) | (unfold hNwE; rw [if_pos ha, if_pos ha]; done) | (unfold hNwE; rw [if_pos ha]; done) | (unfold hNwV; rw [if_neg ha, if_neg hx]; done) | (unfold hNwE; rw [if_neg ha]; done) | (unfold hNwV; rw [if_neg ha, if_pos hx]; done) | (unfold hNwE; rw [if_neg ha]; exact hx.symm))
 ·
  have ha : ¬ a < 1 := by have := hb1; (split at this <;> omega)
  refine wp_skip ?_
  refine pop_then ?_
  refine wp_region_seq ?_
  refine hS.opsC 1 [0] [1, 2] fun _ => seg [(17, .agg #[pt b 0, vi o_, vi z])] [(0, none)] [.e (ν1 0), .e (ν1 0), .e (ν1 0)] trivial fun ac wd hS => ?_
  refine hS.call0 117 #[.agg #[pt b 0, vi o_, vi z]] 18 (h_Next b F m o_ z _ (hS.mem.res 0) (by first | assumption | omega | (simp_all; done) | (simp_all; omega))) fun ac wd hS => ?_
  refine hS.opsC 5 [0, 0, 0, 0, 0] [1, 2] fun _ => seg [(7, vu (hNxV m o_ z)), (8, vi (hNxE m o_ z))] [(0, none)] [] trivial fun ac wd hS => ?_
  refine list_nil_seq ?_
  refine wp_seq ?_
  refine hS.regS [0, 0] [1, 2, 7, 8] fun _ => seg [(22, vb (((hNxE m o_ z) : Int) != 0))] [(0, none)] [] trivial fun ac wd hS => ?_
  refine hS.condC (((hNxE m o_ z) : Int) != 0) (fun hb2o hb2 => ?_) (fun hb2o hb2 => ?_)
  ·
   have hx : hNxE m o_ z ≠ 0 := hb2
   refine hS.regS [0, 0, 0] [] fun _ => seg [(4, vu 0), (5, vi (hNxE m o_ z))] [] [] trivial fun ac wd hS => ?_
   refine wp_ret ?_
   refine pop_then_ret ?_
   refine St.retC 0 hS (.tuple #[vu 0, vi (hNxE m o_ z)]) [] trivial fun hw => ?_
   refine ⟨F, retd (tuple2 (vint ?_) (vint ?_)), (res_eq (r := arR b F m) (by first | (unfold hNwM; rw [if_pos ha]; done) | (unfold hNwM; rw [if_neg ha, if_neg hx]; done) | (unfold hNwM; rw [if_neg ha, if_pos hx]; done)) (hw.res 0)), hw.frA⟩
   all_goals (first | (unfold hNwV; rw [if_pos ha]; done) | (unfold hNwE; rw [if_pos ha, if_pos ha]; done) | (unfold hNwE; rw [if_pos ha]; done) | (unfold hNwV; rw [if_neg ha, if_neg hx]; done) | (unfold hNwE; rw [if_neg ha]; done) | (unfold hNwV; rw [if_neg ha, if_pos hx]; done) | (unfold hNwE; rw [if_neg ha]; exact hx.symm))
  ·
   have hx : hNxE m o_ z = 0 := hb2
   refine wp_skip ?_
   refine pop_then ?_
   refine hS.regS [0, 20, 20, 0] [1, 2, 7] fun _ => seg [(9, vi ((hNxV m o_ z) % 256))] [(0, none)] [.p (fit .i64 ((hNxV m o_ z) % 256)), .p ((256 : Int) ≠ 0 ∧ Int.tmod (hNxV m o_ z) 256 = (hNxV m o_ z) % 256)] ⟨fit_i64 (by omega), rem2 (by omega) (by omega), trivial⟩ fun ac wd hS => ?_
   refine wp_region_seq ?_
   refine hS.opsC 3 [0, 0, 0] [2, 7, 9] fun _ => seg [(27, .agg #[pt b 0, vi o_, vi z]), (28, vi ((hNxV m o_ z) % 256)), (29, vi a)] [(0, none)] [.e (ν1 0), .e (ν1 0), .e (ν1 0)] trivial fun ac wd hS => ?_
   refine hS.callC 118 #[.agg #[pt b 0, vi o_, vi z], vi ((hNxV m o_ z) % 256), vi a] (h_set b F m o_ z ((hNxV m o_ z) % 256) a _ (hS.mem.res 0) (by first | assumption | omega | (simp_all; done) | (simp_all; omega)) (by first | assumption | omega | (simp_all; done) | (simp_all; omega))) ?_
   rintro _ wd ⟨F3, rfl, hA, hF⟩
   refine ⟨.tuple #[], rfl, ?_⟩
   replace hS := (hS.to (hS.mem.stepA 0 rfl hA hF)).put (d := 30) (v := .tuple #[]) (by decide)
   clear hF
   refine list_nil_seq ?_
   refine wp_region_seq ?_
   refine hS.opsC 7 [0, 0, 0, 20, 20, 0, 20] [7] fun _ => seg [(32, .agg #[pt b 0, vi o_, vi z]), (35, vi ((((hNxV m o_ z) % 256) * 16) + 8)), (37, vu ((hNxV m o_ z) / 256))] [] [.p ((256 : Int) ≠ 0 ∧ IntKind.u64.wrap (Int.tdiv (hNxV m o_ z) 256) = (hNxV m o_ z) / 256), .p (fit .i64 ((((hNxV m o_ z) % 256) * 16) + 8)), .p (fit .i64 (((hNxV m o_ z) % 256) * 16)), .e (ν1 0), .e (ν1 0), .e (ν1 0)] ⟨quo2_u64 (by omega) (by omega) (by omega), fit_i64 (by omega), fit_i64 (by omega), trivial⟩ fun ac wd hS => ?_
   refine hS.callC 119 #[.agg #[pt b 0, vi o_, vi z], vi ((((hNxV m o_ z) % 256) * 16) + 8), vi 8, vu ((hNxV m o_ z) / 256)] (vw_Store b F3 (hSetM m o_ z ((hNxV m o_ z) % 256) a) o_ z ((((hNxV m o_ z) % 256) * 16) + 8) 8 ((hNxV m o_ z) / 256) _ (hS.mem.res 0) (by first | assumption | omega | (simp_all; done) | (simp_all; omega))) ?_
   rintro _ wd ⟨F4, rfl, hA, hF⟩
   refine ⟨vi (vstE (hSetM m o_ z ((hNxV m o_ z) % 256) a) o_ z ((((hNxV m o_ z) % 256) * 16) + 8) 8), rfl, ?_⟩
   replace hS := (hS.to (hS.mem.stepA 0 rfl hA hF)).put (d := 38) (v := vi (vstE (hSetM m o_ z ((hNxV m o_ z) % 256) a) o_ z ((((hNxV m o_ z) % 256) * 16) + 8) 8)) (by decide)
   clear hF
   refine list_nil_seq ?_
   refine hS.regS [0, 0, 0] [] fun _ => seg [(4, vu (hNxV m o_ z)), (5, vi 0)] [] [] trivial fun ac wd hS => ?_
   refine wp_ret ?_
   refine St.retC 0 hS (.tuple #[vu (hNxV m o_ z), vi 0]) [] trivial fun hw => ?_
   refine ⟨F4, retd (tuple2 (vint ?_) (vint ?_)), (res_eq (r := arR b F4 (vstM (hSetM m o_ z ((hNxV m o_ z) % 256) a) o_ z ((((hNxV m o_ z) % 256) * 16) + 8) 8 ((hNxV m o_ z) / 256))) (by first | (unfold hNwM; rw [if_pos ha]; done) | (unfold hNwM; rw [if_neg ha, if_neg hx]; done) | (unfold hNwM; rw [if_neg ha, if_pos hx]; done)) (hw.res 0)), hw.frA⟩
   all_goals (first | (unfold hNwV; rw [if_pos ha]; done) | (unfold hNwE; rw [if_pos ha, if_pos ha]; done) | (unfold hNwE; rw [if_pos ha]; done) | (unfold hNwV; rw [if_neg ha, if_neg hx]; done) | (unfold hNwE; rw [if_neg ha]; done) | (unfold hNwV; rw [if_neg ha, if_pos hx]; done) | (unfold hNwE; rw [if_neg ha]; exact hx.symm))

set_option maxRecDepth 100000 in
set_option maxHeartbeats 1000000 in
theorem h_Drop (b : Nat) (F : Nat → Prop) (m : AM) (o_ : Int) (z : Int) (h : Int) (w : World) (hr : (arR b F m).R w) (ho : 0 ≤ o_ ∧ 0 ≤ z ∧ o_ + z ≤ 4294967296) (hh : 0 ≤ h ∧ h ≤ 18446744073709551615) :
    Calls Tryd.prog 39 #[.agg #[pt b 0, vi o_, vi z], vu h] w fun e w' => ∃ (F' : Nat → Prop), e = .returned (vi (hfE m o_ z h)) ∧ (arR b F' (hDrM m o_ z h)).R w' ∧ Fr w w' F F' := by
 have hln := hLen_bd (z := z) (by omega)
 have hfr := hf_rng m o_ z h
 refine enter (args := [.agg #[pt b 0, vi o_, vi z], vu h]) (D := F) (A := [arR b F m]) Tryd.func39 rfl 21 rfl [] (WS.startA (r := arR b F m) hr trivial trivial) fun ac hS => ?_
 refine hS.regS [0, 0] [1] fun ν1 => seg [(2, pt (ν1 0) 0)] [(0, some ((ν1 0), .cells [pt b 0, vi o_, vi z] 74))] [] trivial fun ac wd hS => ?_
 refine wp_region_seq ?_
 refine hS.opsC 2 [0, 0] [2] fun _ => seg [(9, .agg #[pt b 0, vi o_, vi z]), (10, vu h)] [(0, none)] [.e (ν1 0), .e (ν1 0), .e (ν1 0)] trivial fun ac wd hS => ?_
 refine hS.call0 120 #[.agg #[pt b 0, vi o_, vi z], vu h] 11 (h_find b F m o_ z h _ (hS.mem.res 0) (by first | assumption | omega | (simp_all; done) | (simp_all; omega)) (by first | assumption | omega | (simp_all; done) | (simp_all; omega))) fun ac wd hS => ?_
 refine hS.opsC 7 [0, 0, 0, 0, 0, 0, 0] [2] fun _ => seg [(5, vi (hfI m o_ z h)), (7, vi (hfE m o_ z h))] [(0, none)] [] trivial fun ac wd hS => ?_
 refine list_nil_seq ?_
 refine wp_seq ?_
 refine hS.regS [0, 0] [2, 5, 7] fun _ => seg [(16, vb (((hfE m o_ z h) : Int) == 0))] [(0, none)] [] trivial fun ac wd hS => ?_
 refine hS.condC (((hfE m o_ z h) : Int) == 0) (fun hb1o hb1 => ?_) (fun hb1o hb1 => ?_)
 ·
  have hx : hfE m o_ z h = 0 := hb1
  refine wp_region_lit ?_
  refine hS.opsC 2 [0, 0] [7] fun _ => seg [(17, .agg #[pt b 0, vi o_, vi z]), (18, vi (hfI m o_ z h))] [] [.e (ν1 0), .e (ν1 0), .e (ν1 0)] trivial fun ac wd hS => ?_
  refine hS.callC 118 #[.agg #[pt b 0, vi o_, vi z], vi (hfI m o_ z h), vi 0] (h_set b F m o_ z (hfI m o_ z h) 0 _ (hS.mem.res 0) (by first | assumption | omega | (simp_all; done) | (simp_all; omega)) (by first | assumption | omega | (simp_all; done) | (simp_all; omega))) ?_
  rintro _ wd ⟨F2, rfl, hA, hF⟩
  refine ⟨.tuple #[], rfl, ?_⟩
  replace hS := (hS.to (hS.mem.stepA 0 rfl hA hF)).put (d := 19) (v := .tuple #[]) (by decide)
  clear hF
  refine list_nil ?_
  refine pop_then ?_
  refine hS.regS [0, 0] [] fun _ => seg [(4, vi (hfE m o_ z h))] [] [] trivial fun ac wd hS => ?_
  refine wp_ret ?_
  refine St.retC 0 hS (vi (hfE m o_ z h)) [] trivial fun hw => ?_
  refine ⟨F2, retd rfl, (res_eq (r := arR b F2 (hSetM m o_ z (hfI m o_ z h) 0)) (by first | (unfold hDrM; rw [if_pos hx]; done) | (unfold hDrM; rw [if_neg hx]; done)) (hw.res 0)), hw.frA⟩
 ·
  have hx : hfE m o_ z h ≠ 0 := hb1
  refine wp_skip ?_
  refine pop_then ?_
  refine hS.regS [0, 0] [] fun _ => seg [(4, vi (hfE m o_ z h))] [] [] trivial fun ac wd hS => ?_
  refine wp_ret ?_
  refine St.retC 0 hS (vi (hfE m o_ z h)) [] trivial fun hw => ?_
  refine ⟨F, retd rfl, (res_eq (r := arR b F m) (by first | (unfold hDrM; rw [if_pos hx]; done) | (unfold hDrM; rw [if_neg hx]; done)) (hw.res 0)), hw.frA⟩

set_option maxRecDepth 100000 in
set_option maxHeartbeats 1000000 in
theorem law17_open (n : Int) (w : World) (hn : 0 ≤ n ∧ n ≤ 8000) :
    Calls Tryd.prog 37 #[vi n] w fun e w' => ∃ (b' : Nat) (F' : Nat → Prop), e = .returned (.tuple #[pt b' 0, .agg #[pt b' 0, vi 16, vi n], vb true]) ∧ (arR b' F' (comM (AM.new 2) 0 2)).R w' ∧ Fr w w' no F' := by
 refine enter (args := [vi n]) (D := no) (A := []) Tryd.func37 rfl 27 rfl [] (WS.startL trivial) fun ac hS => ?_
 refine hS.regS [0, 0, 0] [0] fun ν1 => seg [(3, pt (ν1 0) 0)] [(0, some ((ν1 0), .cells [pnil, vi 0, vi 0] 74))] [] trivial fun ac wd hS => ?_
 refine wp_region_seq ?_
 refine hS.callC 26 #[vi 2] (ar_New 2 _  ) ?_
 rintro _ wd ⟨b'1, F2, rfl, hN, hF⟩
 refine ⟨pt b'1 0, rfl, ?_⟩
 replace hS := (hS.to (hS.mem.newA hN hF)).put (d := 9) (v := pt b'1 0) (by decide)
 clear hF
 refine hS.opsC 1 [0] [0, 3] fun _ => seg [(5, pt b'1 0)] [(0, none)] [] trivial fun ac wd hS => ?_
 refine list_nil_seq ?_
 refine wp_region_seq ?_
 refine hS.opsC 1 [0] [0, 3, 5] fun _ => seg [(10, pt b'1 0)] [(0, none)] [] trivial fun ac wd hS => ?_
 refine hS.callC 56 #[pt b'1 0, vi 0, vi 2] (ar_Commit b'1 F2 (AM.new 2) 0 2 _ (hS.mem.res 0) ) ?_
 rintro _ wd ⟨F3, rfl, hA, hF⟩
 refine ⟨vi (comE (AM.new 2) 0 2), rfl, ?_⟩
 replace hS := (hS.to (hS.mem.stepA 0 rfl hA hF)).put (d := 11) (v := vi (comE (AM.new 2) 0 2)) (by decide)
 clear hF
 refine hS.opsC 1 [0] [0, 3, 5] fun _ => seg [(6, vi (comE (AM.new 2) 0 2))] [(0, none)] [] trivial fun ac wd hS => ?_
 refine list_nil_seq ?_
 refine wp_region_seq ?_
 refine hS.opsC 2 [0, 0] [3, 5, 6] fun _ => seg [(13, pt b'1 0), (14, vi n)] [(0, none)] [] trivial fun ac wd hS => ?_
 refine hS.call0 52 #[pt b'1 0, vi 16, vi n] 15 (vw_Of b'1 F3 (comM (AM.new 2) 0 2) 16 n _ (hS.mem.res 0) (by exact page_thr2 (by omega))) fun ac wd hS => ?_
 refine hS.opsC 6 [0, 0, 0, 0, 100, 0] [3, 5, 6] fun ν6 => seg [(7, pt (ν6 0) 0), (8, vi 0)] [(0, none), (1, some ((ν6 0), .cells [pt b'1 0, vi 16, vi n] 72))] [.e (ν6 0), .e (ν6 0), .e (ν6 0)] trivial fun ac wd hS => ?_
 refine list_nil_seq ?_
 refine wp_region_seq ?_
 refine hS.opsC 2 [0, 100] [3, 6, 8] fun _ => seg [(18, pt b'1 0), (19, .agg #[pt b'1 0, vi 16, vi n])] [(0, none)] [.e (ν6 0), .e (ν6 0), .e (ν6 0)] trivial fun ac wd hS => ?_
 refine hS.call0 115 #[.agg #[pt b'1 0, vi 16, vi n]] 20 (h_Open b'1 16 n _  ) fun ac wd hS => ?_
 refine hS.opsC 9 [0, 0, 0, 3, 3, 80, 0, 0, 0] [3] fun _ => seg [(2, pt b'1 0), (4, vb ((((comE (AM.new 2) 0 2) : Int) == 0) && true))] [(0, some ((ν1 0), .cells [pt b'1 0, vi 16, vi n] 74))] [.e (ν1 0), .e (ν1 0), .e (ν1 0)] trivial fun ac wd hS => ?_
 refine list_nil_seq ?_
 refine wp_ret ?_
 refine St.retC 0 hS (.tuple #[pt b'1 0, .agg #[pt b'1 0, vi 16, vi n], vb ((((comE (AM.new 2) 0 2) : Int) == 0) && true)]) [.e (ν1 0), .e (ν1 0), .e (ν1 0)] trivial fun hw => ?_
 refine ⟨b'1, F3, retd (tuple3 rfl rfl (vbool ?_)), (hw.res 0), hw.frA⟩
 all_goals (first | rfl | decide +kernel)

set_option maxRecDepth 100000 in
set_option maxHeartbeats 1000000 in
theorem law17_awake (w : World) (hh0 : HE.holds w 0 (.fn 0 64 dbT)) :
    Calls Tryd.prog 36 #[] w fun e w' => e = .returned (vb true) ∧ Fr w w' no no := by
 refine enter (args := []) (D := no) (A := []) Tryd.func36 rfl 62 rfl [(0, .fn 0 64 dbT)] (WS.startL ⟨⟨rfl, hh0⟩, trivial⟩) fun ac hS => ?_
 refine hS.regS [0] [] fun _ => seg [] [(0, none)] [] trivial fun ac wd hS => ?_
 refine wp_region_seq ?_
 refine hS.callC 37 #[vi 64] (law17_open 64 _  (by decide)) ?_
 rintro _ wd ⟨b'1, F2, rfl, hN, hF⟩
 refine ⟨.tuple #[pt b'1 0, .agg #[pt b'1 0, vi 16, vi 64], vb true], rfl, ?_⟩
 replace hS := (hS.to (hS.mem.newA hN hF)).put (d := 12) (v := .tuple #[pt b'1 0, .agg #[pt b'1 0, vi 16, vi 64], vb true]) (by decide)
 clear hF
 refine hS.opsC 8 [0, 0, 0, 0, 0, 0, 100, 0] [] fun ν2 => seg [(2, pt (ν2 0) 0), (3, vb true)] [(0, none), (1, some ((ν2 0), .cells [pt b'1 0, vi 16, vi 64] 74))] [.e (ν2 0), .e (ν2 0), .e (ν2 0)] trivial fun ac wd hS => ?_
 refine list_nil_seq ?_
 refine wp_region_seq ?_
 refine hS.opsC 1 [100] [2, 3] fun _ => seg [(17, .agg #[pt b'1 0, vi 16, vi 64])] [(0, none), (1, none)] [.e (ν2 0), .e (ν2 0), .e (ν2 0)] trivial fun ac wd hS => ?_
 refine hS.callC 38 #[.agg #[pt b'1 0, vi 16, vi 64], vi 4096] (h_New b'1 F2 (comM (AM.new 2) 0 2) 16 64 4096 _ (hS.mem.res 0) (by decide)) ?_
 rintro _ wd ⟨F3, rfl, hA, hF⟩
 refine ⟨.tuple #[vu (hNwV (comM (AM.new 2) 0 2) 16 64 4096), vi (hNwE (comM (AM.new 2) 0 2) 16 64 4096)], rfl, ?_⟩
 replace hS := (hS.to (hS.mem.stepA 0 rfl hA hF)).put (d := 18) (v := .tuple #[vu (hNwV (comM (AM.new 2) 0 2) 16 64 4096), vi (hNwE (comM (AM.new 2) 0 2) 16 64 4096)]) (by decide)
 clear hF
 replace hS := hS.fix 18 (.tuple #[vu 256, vi 0]) (show (.tuple #[vu (hNwV (comM (AM.new 2) 0 2) 16 64 4096), vi (hNwE (comM (AM.new 2) 0 2) 16 64 4096)] : Value) = .tuple #[vu 256, vi 0] from (tuple2 (vint (by decide +kernel)) (vint (by decide +kernel))))
 refine hS.opsC 5 [0, 0, 0, 0, 0] [2, 3] fun _ => seg [(4, vu 256), (5, vi 0)] [(0, none), (1, none)] [] trivial fun ac wd hS => ?_
 refine list_nil_seq ?_
 refine wp_region_seq ?_
 refine hS.opsC 2 [100, 0] [2, 3, 4, 5] fun _ => seg [(21, .agg #[pt b'1 0, vi 16, vi 64]), (22, vu 256)] [(0, none), (1, none)] [.e (ν2 0), .e (ν2 0), .e (ν2 0)] trivial fun ac wd hS => ?_
 refine hS.callC 39 #[.agg #[pt b'1 0, vi 16, vi 64], vu 256] (h_Drop b'1 F3 (hNwM (comM (AM.new 2) 0 2) 16 64 4096) 16 64 256 _ (hS.mem.res 0) (by decide) (by decide)) ?_
 rintro _ wd ⟨F4, rfl, hA, hF⟩
 refine ⟨vi (hfE (hNwM (comM (AM.new 2) 0 2) 16 64 4096) 16 64 256), rfl, ?_⟩
 replace hS := (hS.to (hS.mem.stepA 0 rfl hA hF)).put (d := 23) (v := vi (hfE (hNwM (comM (AM.new 2) 0 2) 16 64 4096) 16 64 256)) (by decide)
 clear hF
 replace hS := hS.fix 23 (vi 0) (show (vi (hfE (hNwM (comM (AM.new 2) 0 2) 16 64 4096) 16 64 256) : Value) = vi 0 from (vint (by decide +kernel)))
 refine hS.opsC 1 [0] [2, 3, 4, 5] fun _ => seg [(6, vi 0)] [(0, none), (1, none)] [] trivial fun ac wd hS => ?_
 refine list_nil_seq ?_
 refine wp_region_seq ?_
 refine hS.opsC 1 [100] [2, 3, 4, 5, 6] fun _ => seg [(25, .agg #[pt b'1 0, vi 16, vi 64])] [(0, none), (1, none)] [.e (ν2 0), .e (ν2 0), .e (ν2 0)] trivial fun ac wd hS => ?_
 refine hS.callC 38 #[.agg #[pt b'1 0, vi 16, vi 64], vi 8192] (h_New b'1 F4 (hDrM (hNwM (comM (AM.new 2) 0 2) 16 64 4096) 16 64 256) 16 64 8192 _ (hS.mem.res 0) (by decide)) ?_
 rintro _ wd ⟨F5, rfl, hA, hF⟩
 refine ⟨.tuple #[vu (hNwV (hDrM (hNwM (comM (AM.new 2) 0 2) 16 64 4096) 16 64 256) 16 64 8192), vi (hNwE (hDrM (hNwM (comM (AM.new 2) 0 2) 16 64 4096) 16 64 256) 16 64 8192)], rfl, ?_⟩
 replace hS := (hS.to (hS.mem.stepA 0 rfl hA hF)).put (d := 26) (v := .tuple #[vu (hNwV (hDrM (hNwM (comM (AM.new 2) 0 2) 16 64 4096) 16 64 256) 16 64 8192), vi (hNwE (hDrM (hNwM (comM (AM.new 2) 0 2) 16 64 4096) 16 64 256) 16 64 8192)]) (by decide)
 clear hF
 replace hS := hS.fix 26 (.tuple #[vu 512, vi 0]) (show (.tuple #[vu (hNwV (hDrM (hNwM (comM (AM.new 2) 0 2) 16 64 4096) 16 64 256) 16 64 8192), vi (hNwE (hDrM (hNwM (comM (AM.new 2) 0 2) 16 64 4096) 16 64 256) 16 64 8192)] : Value) = .tuple #[vu 512, vi 0] from (tuple2 (vint (by decide +kernel)) (vint (by decide +kernel))))
 refine hS.opsC 5 [0, 0, 0, 0, 0] [2, 3, 4, 5, 6] fun _ => seg [(7, vu 512), (8, vi 0)] [(0, none), (1, none)] [] trivial fun ac wd hS => ?_
 refine list_nil_seq ?_
 refine wp_region_seq ?_
 refine hS.opsC 1 [100] [3, 4, 5, 6, 7, 8] fun _ => seg [(30, .agg #[pt b'1 0, vi 16, vi 64])] [(0, none)] [.e (ν2 0), .e (ν2 0), .e (ν2 0)] trivial fun ac wd hS => ?_
 refine hS.call0 40 #[.agg #[pt b'1 0, vi 16, vi 64], vu 256] 31 (h_Get b'1 F5 (hNwM (hDrM (hNwM (comM (AM.new 2) 0 2) 16 64 4096) 16 64 256) 16 64 8192) 16 64 256 _ (hS.mem.res 0) (by decide) (by decide)) fun ac wd hS => ?_
 replace hS := hS.fix 31 (.tuple #[vi 0, vi 6]) (show (.tuple #[vi (hfA (hNwM (hDrM (hNwM (comM (AM.new 2) 0 2) 16 64 4096) 16 64 256) 16 64 8192) 16 64 256), vi (hfE (hNwM (hDrM (hNwM (comM (AM.new 2) 0 2) 16 64 4096) 16 64 256) 16 64 8192) 16 64 256)] : Value) = .tuple #[vi 0, vi 6] from (tuple2 (vint (by decide +kernel)) (vint (by decide +kernel))))
 refine hS.opsC 5 [0, 0, 0, 0, 0] [3, 4, 5, 6, 7, 8] fun _ => seg [(10, vi 6)] [(0, none)] [] trivial fun ac wd hS => ?_
 refine list_nil_seq ?_
 refine wp_region_seq ?_
 refine hS.call0 114 #[] 34 (law04_Awake  _ (hS.mem.get 0 0 (.fn 0 64 dbT)) ) fun ac wd hS => ?_
 refine hS.opsC 28 [0, 1, 70, 0, 1, 1, 70, 0, 1, 1, 70, 0, 1, 1, 70, 0, 1, 1, 70, 0, 1, 1, 70, 0, 1, 1, 70, 0] [] fun _ => seg [(0, vb true)] [(0, none)] [.t true, .t true, .t true, .t true, .t true, .t true, .t true, .t true, .t true, .t true, .t true, .t true, .t true, .t true, .t true, .t true, .t true, .t true, .t true, .t true] trivial fun ac wd hS => ?_
 refine list_nil_seq ?_
 refine wp_ret ?_
 refine St.retC 0 hS (vb true) [] trivial fun hw => ?_
 refine ⟨retd rfl, hw.fr0⟩

end Go.Proofs.YtnbkafnikpbmbaaDoor.K
