/-
  Walks, printed by w2.py.
-/
import Derived.Test.YthgkiieenojcpaaDoorVb
import Derived.Test.YthgkiieenojcpaaDoorVd
import Derived.Test.YthgkiieenojcpaaDoorProg
namespace Go.Proofs.YthgkiieenojcpaaDoor.K
set_option linter.unusedVariables false
set_option linter.unusedSimpArgs false

set_option maxRecDepth 100000 in
set_option maxHeartbeats 1000000 in
theorem law06_TagsLaid_t (i : Int) (a : Int) (w : World) (hh0 : HE.holds w 0 (.fn 0 64 dbT)) :
    Calls Tryd.prog 11 #[vi i, vi a, vb true] w fun e w' => e = .returned (vb true) ∧ Fr w w' no no := by
 have hZ : TgR (comM (AM.new 1) 0 1) 96 1100 (List.replicate 1100 ((0, 0) : Int × Int)) := TgR.zero (comM_zero (fun _ => rfl) 0 1) (page_thr1 (by decide)) (by decide) (n := 1100) rfl rfl
 have hL1 := hZ.lay (i := i) (a := a) (s := 3) (by decide)
 have hL2 := hL1.2.lay (i := i) (a := a) (s := 0) (by decide)
 refine enter (args := [vi i, vi a, vb true]) (D := no) (A := []) Tryd.func11 rfl 100 rfl [(0, .fn 0 64 dbT)] (WS.startL ⟨⟨rfl, hh0⟩, trivial⟩) fun ac hS => ?_
 refine hS.regS [0] [0, 1, 2] fun _ => seg [] [(0, none)] [] trivial fun ac wd hS => ?_
 refine wp_seq ?_
 refine wp_region_seq ?_
 refine hS.call0 59 #[] 20 (law06_awake  _ (hS.mem.get 0 0 (.fn 0 64 dbT)) ) fun ac wd hS => ?_
 refine hS.opsC 1 [0] [0, 1, 2] fun _ => seg [(21, vb false)] [(0, none)] [] trivial fun ac wd hS => ?_
 refine list_nil_seq ?_
 refine hS.condF ?_
 refine wp_skip ?_
 refine pop_then ?_
 refine wp_region_seq ?_
 refine hS.callC 60 #[vi 1100] (law06_open 1100 _  (by decide)) ?_
 rintro _ wd ⟨b'1, F2, rfl, hN, hF⟩
 refine ⟨.tuple #[pt b'1 0, .agg #[pt b'1 0, vi 96, vi 1100], vb true], rfl, ?_⟩
 replace hS := (hS.to (hS.mem.newA hN hF)).put (d := 23) (v := .tuple #[pt b'1 0, .agg #[pt b'1 0, vi 96, vi 1100], vb true]) (by decide)
 clear hF
 refine hS.opsC 8 [0, 0, 0, 0, 0, 0, 100, 0] [0, 1, 2] fun ν3 => seg [(8, pt (ν3 0) 0), (9, vb true)] [(0, none), (1, some ((ν3 0), .cells [pt b'1 0, vi 96, vi 1100] 102))] [.e (ν3 0), .e (ν3 0), .e (ν3 0)] trivial fun ac wd hS => ?_
 refine list_nil_seq ?_
 refine hS.regS [0] [0, 1, 2, 8, 9] fun _ => seg [(10, v8 2)] [(0, none), (1, none)] [] trivial fun ac wd hS => ?_
 refine wp_seq ?_
 refine hS.regS [0] [0, 1, 8, 9, 10] fun _ => seg [(27, vb true)] [(0, none), (1, none)] [] trivial fun ac wd hS => ?_
 refine hS.condT ?_
 refine hS.regC [0] [0, 1, 8, 9] fun _ => seg [(10, v8 3)] [(0, none), (1, none)] [] trivial fun ac wd hS => ?_
 refine pop_then ?_
 refine wp_region_seq ?_
 refine hS.opsC 4 [100, 0, 0, 0] [0, 1, 8, 9, 10] fun _ => seg [(28, .agg #[pt b'1 0, vi 96, vi 1100]), (29, vi i), (30, vi a), (31, v8 3)] [(0, none), (1, none)] [.e (ν3 0), .e (ν3 0), .e (ν3 0)] trivial fun ac wd hS => ?_
 refine hS.callC 61 #[.agg #[pt b'1 0, vi 96, vi 1100], vi i, vi a, v8 3] (tags_Lay_r b'1 F2 (comM (AM.new 1) 0 1) 96 1100 i a 3 (List.replicate 1100 ((0, 0) : Int × Int)) _ (hS.mem.res 0) (by first | exact hZ | exact hL1.2) (by decide)) ?_
 rintro _ wd ⟨F3, rfl, hA, hF⟩
 refine ⟨vi (rlE (List.replicate 1100 ((0, 0) : Int × Int)) i a 3), rfl, ?_⟩
 replace hS := (hS.to (hS.mem.stepA 0 rfl hA hF)).put (d := 32) (v := vi (rlE (List.replicate 1100 ((0, 0) : Int × Int)) i a 3)) (by decide)
 clear hF
 refine hS.opsC 1 [0] [0, 1, 8, 9, 10] fun _ => seg [(11, vi (rlE (List.replicate 1100 ((0, 0) : Int × Int)) i a 3))] [(0, none), (1, none)] [] trivial fun ac wd hS => ?_
 refine list_nil_seq ?_
 refine wp_seq ?_
 refine hS.regS [0, 0] [0, 1, 8, 9, 10, 11] fun _ => seg [(34, vb (((rlE (List.replicate 1100 ((0, 0) : Int × Int)) i a 3) : Int) != 0))] [(0, none), (1, none)] [] trivial fun ac wd hS => ?_
 refine hS.condC (((rlE (List.replicate 1100 ((0, 0) : Int × Int)) i a 3) : Int) != 0) (fun hb4o hb4 => ?_) (fun hb4o hb4 => ?_)
 ·
  have hne := rlE_arg (q := (List.replicate 1100 ((0, 0) : Int × Int))) (i := i) (a := a) (s := 3) (by decide)
  refine hS.regS [0, 0, 1, 1, 1, 1, 1, 3, 3, 81, 1, 70, 0] [] fun _ => seg [(6, vb ((((rlE (List.replicate 1100 ((0, 0) : Int × Int)) i a 3) : Int) == 2) == ((decide ((a : Int) < 0)) || (decide ((10 : Int) < a)))))] [(0, none)] [.t true, .t true, .t true, .t true, .t true, .t true, .t true, .t true] trivial fun ac wd hS => ?_
  refine wp_ret ?_
  refine pop_then_ret ?_
  refine St.retC 0 hS (vb ((((rlE (List.replicate 1100 ((0, 0) : Int × Int)) i a 3) : Int) == 2) == ((decide ((a : Int) < 0)) || (decide ((10 : Int) < a))))) [] trivial fun hw => ?_
  refine ⟨retd (vbool ?_), hw.fr0⟩
  all_goals (first | rfl | (rw [hne]; exact beq_self_eq_true _))
 ·
  have hE0 : rlE (List.replicate 1100 ((0, 0) : Int × Int)) i a 3 = 0 := hb4
  obtain ⟨hy1, hy2, hy3, hy4⟩ := rlE_ok hE0
  have hpg := pgsN_bd hy2
  have hsh := pgsN_shl a
  have hE1 := rl_none hE0
  obtain ⟨hi0, hi1⟩ := rlE_in hE0
  rw [List.length_replicate] at hi1
  refine wp_skip ?_
  refine pop_then ?_
  refine wp_seq ?_
  refine hS.regS [0, 20, 0] [0, 1, 8, 9, 10] fun _ => seg [(48, vi (1 * (2 ^ Int.toNat a))), (49, vi 0)] [(0, none), (1, none)] [.p (0 ≤ a ∧ IntKind.i64.wrap (1 * 2 ^ (min (Int.toNat a) 64)) = (1 * (2 ^ Int.toNat a)))] ⟨shl2_i64 (by omega) (by omega) (by exact pgsN_sh hy2), trivial⟩ fun ac wd hS => ?_
  refine wp_block ?_
  refine St.loopC (σ := Int) (fun (x49 : Int) => ⟨[(0, [], vi i), (1, [], vi a), (8, [], pt (ν3 0) 0), (9, [], vb true), (10, [], v8 3), (48, [], vi (1 * (2 ^ Int.toNat a))), (49, [], vi x49)], [(0, .fn 0 64 dbT), ((ν3 0), .cells [pt b'1 0, vi 96, vi 1100] 102)], [arR b'1 F3 (tgLM (comM (AM.new 1) 0 1) 96 1100 i a 3)], (0 ≤ x49 ∧ x49 ≤ (1 * (2 ^ Int.toNat a) : Int)) ∧ True, Int.toNat ((1 * (2 ^ Int.toNat a) : Int) - x49)⟩) 0 ⟨(by omega), trivial⟩ hS ?_
  clear hS
  rintro x49 ⟨i0, -⟩ ac wd hS
  replace i0 : 0 ≤ x49 ∧ x49 ≤ (1 * (2 ^ Int.toNat a) : Int) := i0
  refine hS.regS [0] [0, 1, 8, 9, 10, 48, 49] fun _ => seg [(50, vb (decide ((x49 : Int) < (1 * (2 ^ Int.toNat a)))))] [(0, none), (1, none)] [] trivial fun ac wd hS => ?_
  refine wp_seq ?_
  refine hS.condC (decide ((x49 : Int) < (1 * (2 ^ Int.toNat a)))) (fun hb5o hb5 => ?_) (fun hb5o hb5 => ?_)
  ·
   have hr := run_laid (q := (List.replicate 1100 ((0, 0) : Int × Int))) (s := 3) (by decide) hE0 i0.1 (by omega)
   refine wp_skip ?_
   refine pop_then ?_
   refine wp_seq ?_
   refine wp_block ?_
   refine hS.regS [0, 0] [0, 1, 8, 9, 10, 48, 49] fun _ => seg [(12, vi x49)] [(0, none), (1, none)] [] trivial fun ac wd hS => ?_
   refine wp_region_seq ?_
   refine hS.opsC 4 [100, 0, 0, 20] [0, 1, 8, 9, 10, 48, 49] fun _ => seg [(53, .agg #[pt b'1 0, vi 96, vi 1100]), (56, vi (i + x49))] [(0, none), (1, none)] [.p (fit .i64 (i + x49)), .e (ν3 0), .e (ν3 0), .e (ν3 0)] ⟨fit_i64 (by omega), trivial⟩ fun ac wd hS => ?_
   refine hS.call0 62 #[.agg #[pt b'1 0, vi 96, vi 1100], vi (i + x49)] 57 (tags_Run_r b'1 F3 (tgLM (comM (AM.new 1) 0 1) 96 1100 i a 3) 96 1100 (i + x49) (rlQ (List.replicate 1100 ((0, 0) : Int × Int)) i a 3) _ (hS.mem.res 0) (by first | exact hL1.2 | exact hL2.2) (by first | assumption | omega | (simp_all; done) | (simp_all; omega))) fun ac wd hS => ?_
   refine hS.opsC 8 [0, 0, 0, 0, 0, 0, 200, 0] [0, 1, 8, 9, 10, 48, 49] fun ν15 => seg [(13, vi (rrV (rlQ (List.replicate 1100 ((0, 0) : Int × Int)) i a 3) (i + x49))), (14, pt (ν15 0) 0), (15, vi (rrE (rlQ (List.replicate 1100 ((0, 0) : Int × Int)) i a 3) (i + x49)))] [(0, none), (1, none), (2, some ((ν15 0), .cells [v8 (((rrT (rlQ (List.replicate 1100 ((0, 0) : Int × Int)) i a 3) (i + x49))).1), v8 (((rrT (rlQ (List.replicate 1100 ((0, 0) : Int × Int)) i a 3) (i + x49))).2)] 106))] [.e (ν15 0), .e (ν15 0)] trivial fun ac wd hS => ?_
   refine list_nil_seq ?_
   refine wp_region_seq ?_
   refine hS.opsC 8 [0, 0, 0, 3, 3, 3, 80, 0] [0, 1, 8, 9, 10, 14, 48, 49] fun _ => seg [(68, vb ((((rrE (rlQ (List.replicate 1100 ((0, 0) : Int × Int)) i a 3) (i + x49)) : Int) != 0) || (((rrV (rlQ (List.replicate 1100 ((0, 0) : Int × Int)) i a 3) (i + x49)) : Int) != i)))] [(0, none), (1, none), (2, none)] [] trivial fun ac wd hS => ?_
   have hg6o : ((((rrE (rlQ (List.replicate 1100 ((0, 0) : Int × Int)) i a 3) (i + x49)) : Int) != 0) || (((rrV (rlQ (List.replicate 1100 ((0, 0) : Int × Int)) i a 3) (i + x49)) : Int) != i)) = false := by (rw [hr.2.2, hr.1]; simp)
   replace hS := hS.fix 68 (vb false) (congrArg Value.bool hg6o)
   refine hS.opsC 5 [201, 1, 1, 21, 1] [0, 1, 8, 9, 10, 48, 49, 68] fun _ => seg [(69, .agg #[v8 (((rrT (rlQ (List.replicate 1100 ((0, 0) : Int × Int)) i a 3) (i + x49))).1), v8 (((rrT (rlQ (List.replicate 1100 ((0, 0) : Int × Int)) i a 3) (i + x49))).2)]), (73, .agg #[v8 3, v8 a])] [(0, none), (1, none)] [.t false, .t false, .p (fit .u8 a), .t false, .t false, .t false, .e (ν15 0), .e (ν15 0)] ⟨fit_u8 (by omega), trivial⟩ fun ac wd hS => ?_
   refine Runs1.listG hS 68 false ?_ (by decide)
   refine St.binS hS .neq (.tmp 69) (.tmp 73) 106 106 rfl rfl (by decide) (xs := #[v8 (((rrT (rlQ (List.replicate 1100 ((0, 0) : Int × Int)) i a 3) (i + x49))).1), v8 (((rrT (rlQ (List.replicate 1100 ((0, 0) : Int × Int)) i a 3) (i + x49))).2)]) (ys := #[v8 3, v8 a]) (r := vb (!(eqAll [((((rrT (rlQ (List.replicate 1100 ((0, 0) : Int × Int)) i a 3) (i + x49))).1 : Int), (3 : Int)), ((((rrT (rlQ (List.replicate 1100 ((0, 0) : Int × Int)) i a 3) (i + x49))).2 : Int), (a : Int))]))) (fun w => run_neS (l := [((((rrT (rlQ (List.replicate 1100 ((0, 0) : Int × Int)) i a 3) (i + x49))).1 : Int), (3 : Int)), ((((rrT (rlQ (List.replicate 1100 ((0, 0) : Int × Int)) i a 3) (i + x49))).2 : Int), (a : Int))]) w (by as_aux_lemma => kernel_rfl) (by as_aux_lemma => kernel_rfl) (by as_aux_lemma => kernel_rfl)) (by as_aux_lemma => kernel_rfl) fun ac hS => ?_
   refine hS.opsC 1 [60] [0, 1, 8, 9, 10, 48, 49] fun _ => seg [(75, vb (!(eqAll [((((rrT (rlQ (List.replicate 1100 ((0, 0) : Int × Int)) i a 3) (i + x49))).1 : Int), (3 : Int)), ((((rrT (rlQ (List.replicate 1100 ((0, 0) : Int × Int)) i a 3) (i + x49))).2 : Int), (a : Int))])))] [(0, none), (1, none)] [.t false] trivial fun ac wd hS => ?_
   refine list_nil_seq ?_
   refine hS.condK (!(eqAll [((((rrT (rlQ (List.replicate 1100 ((0, 0) : Int × Int)) i a 3) (i + x49))).1 : Int), (3 : Int)), ((((rrT (rlQ (List.replicate 1100 ((0, 0) : Int × Int)) i a 3) (i + x49))).2 : Int), (a : Int))])) false (by (rw [hr.2.1]; simp [eqAll])) ?_
   show Code.wp _ _ _ _ _
   refine wp_skip ?_
   refine pop_block ?_
   refine pop_then ?_
   refine hS.regC [20, 0] [0, 1, 8, 9, 10, 48] fun _ => seg [(49, vi (x49 + 1))] [(0, none), (1, none)] [.p (fit .i64 (x49 + 1))] ⟨fit_i64 (by omega), trivial⟩ fun ac wd hS => ?_
   exact pop_then (hS.next (x49 + 1) ⟨(by first | omega | assumption | (simp; done) | (simp; omega)), trivial⟩ (by dsimp only; omega))
  ·
   refine wp_exit ?_
   refine pop_then_exit ?_
   refine pop_then_exit ?_
   refine pop_block_hit ?_
   refine pop_then ?_
   refine wp_seq ?_
   refine wp_region_seq ?_
   refine hS.opsC 3 [100, 0, 0] [0, 1, 8, 9] fun _ => seg [(77, .agg #[pt b'1 0, vi 96, vi 1100]), (78, vi i), (79, vi a)] [(0, none), (1, none)] [.e (ν3 0), .e (ν3 0), .e (ν3 0)] trivial fun ac wd hS => ?_
   refine hS.callC 61 #[.agg #[pt b'1 0, vi 96, vi 1100], vi i, vi a, v8 0] (tags_Lay_r b'1 F3 (tgLM (comM (AM.new 1) 0 1) 96 1100 i a 3) 96 1100 i a 0 (rlQ (List.replicate 1100 ((0, 0) : Int × Int)) i a 3) _ (hS.mem.res 0) (by first | exact hZ | exact hL1.2) (by decide)) ?_
   rintro _ wd ⟨F7, rfl, hA, hF⟩
   refine ⟨vi (rlE (rlQ (List.replicate 1100 ((0, 0) : Int × Int)) i a 3) i a 0), rfl, ?_⟩
   replace hS := (hS.to (hS.mem.stepA 0 rfl hA hF)).put (d := 80) (v := vi (rlE (rlQ (List.replicate 1100 ((0, 0) : Int × Int)) i a 3) i a 0)) (by decide)
   clear hF
   refine hS.opsC 1 [0] [0, 1, 8, 9] fun _ => seg [(81, vb (((rlE (rlQ (List.replicate 1100 ((0, 0) : Int × Int)) i a 3) i a 0) : Int) != 0))] [(0, none), (1, none)] [] trivial fun ac wd hS => ?_
   refine list_nil_seq ?_
   refine hS.condK (((rlE (rlQ (List.replicate 1100 ((0, 0) : Int × Int)) i a 3) i a 0) : Int) != 0) false (by rw [hE1]; rfl) ?_
   show Code.wp _ _ _ _ _
   refine wp_skip ?_
   refine pop_then ?_
   refine wp_seq ?_
   refine hS.regS [0, 20, 0] [0, 8, 9] fun _ => seg [(83, vi (1 * (2 ^ Int.toNat a))), (84, vi 0)] [(0, none), (1, none)] [.p (0 ≤ a ∧ IntKind.i64.wrap (1 * 2 ^ (min (Int.toNat a) 64)) = (1 * (2 ^ Int.toNat a)))] ⟨shl2_i64 (by omega) (by omega) (by exact pgsN_sh hy2), trivial⟩ fun ac wd hS => ?_
   refine wp_block ?_
   refine St.loopC (σ := Int) (fun (x84 : Int) => ⟨[(0, [], vi i), (8, [], pt (ν3 0) 0), (9, [], vb true), (83, [], vi (1 * (2 ^ Int.toNat a))), (84, [], vi x84)], [(0, .fn 0 64 dbT), ((ν3 0), .cells [pt b'1 0, vi 96, vi 1100] 102)], [arR b'1 F7 (tgLM (tgLM (comM (AM.new 1) 0 1) 96 1100 i a 3) 96 1100 i a 0)], (0 ≤ x84 ∧ x84 ≤ (1 * (2 ^ Int.toNat a) : Int)) ∧ True, Int.toNat ((1 * (2 ^ Int.toNat a) : Int) - x84)⟩) 0 ⟨(by omega), trivial⟩ hS ?_
   clear hS
   rintro x84 ⟨j0, -⟩ ac wd hS
   replace j0 : 0 ≤ x84 ∧ x84 ≤ (1 * (2 ^ Int.toNat a) : Int) := j0
   refine hS.regS [0] [0, 8, 9, 83, 84] fun _ => seg [(85, vb (decide ((x84 : Int) < (1 * (2 ^ Int.toNat a)))))] [(0, none), (1, none)] [] trivial fun ac wd hS => ?_
   refine wp_seq ?_
   refine hS.condC (decide ((x84 : Int) < (1 * (2 ^ Int.toNat a)))) (fun hb8o hb8 => ?_) (fun hb8o hb8 => ?_)
   ·
    have hr8 := run_none (q := (rlQ (List.replicate 1100 ((0, 0) : Int × Int)) i a 3)) hE1 j0.1 (by omega)
    refine wp_skip ?_
    refine pop_then ?_
    refine wp_seq ?_
    refine wp_block ?_
    refine hS.regS [0, 0] [0, 8, 9, 83, 84] fun _ => seg [(16, vi x84)] [(0, none), (1, none)] [] trivial fun ac wd hS => ?_
    refine wp_region_seq ?_
    refine hS.opsC 4 [100, 0, 0, 20] [0, 8, 9, 83, 84] fun _ => seg [(88, .agg #[pt b'1 0, vi 96, vi 1100]), (91, vi (i + x84))] [(0, none), (1, none)] [.p (fit .i64 (i + x84)), .e (ν3 0), .e (ν3 0), .e (ν3 0)] ⟨fit_i64 (by omega), trivial⟩ fun ac wd hS => ?_
    refine hS.call0 62 #[.agg #[pt b'1 0, vi 96, vi 1100], vi (i + x84)] 92 (tags_Run_r b'1 F7 (tgLM (tgLM (comM (AM.new 1) 0 1) 96 1100 i a 3) 96 1100 i a 0) 96 1100 (i + x84) (rlQ (rlQ (List.replicate 1100 ((0, 0) : Int × Int)) i a 3) i a 0) _ (hS.mem.res 0) (by first | exact hL1.2 | exact hL2.2) (by first | assumption | omega | (simp_all; done) | (simp_all; omega))) fun ac wd hS => ?_
    refine hS.opsC 8 [0, 0, 0, 0, 0, 0, 200, 0] [0, 8, 9, 83, 84] fun ν26 => seg [(19, vi (rrE (rlQ (rlQ (List.replicate 1100 ((0, 0) : Int × Int)) i a 3) i a 0) (i + x84)))] [(0, none), (1, none)] [.e (ν26 0), .e (ν26 0)] trivial fun ac wd hS => ?_
    refine list_nil_seq ?_
    refine hS.regS [0, 0] [0, 8, 9, 83, 84] fun _ => seg [(97, vb (((rrE (rlQ (rlQ (List.replicate 1100 ((0, 0) : Int × Int)) i a 3) i a 0) (i + x84)) : Int) != 8))] [(0, none), (1, none)] [] trivial fun ac wd hS => ?_
    refine hS.condK (((rrE (rlQ (rlQ (List.replicate 1100 ((0, 0) : Int × Int)) i a 3) i a 0) (i + x84)) : Int) != 8) false (by (rw [hr8]; rfl)) ?_
    show Code.wp _ _ _ _ _
    refine wp_skip ?_
    refine pop_block ?_
    refine pop_then ?_
    refine hS.regC [20, 0] [0, 8, 9, 83] fun _ => seg [(84, vi (x84 + 1))] [(0, none), (1, none)] [.p (fit .i64 (x84 + 1))] ⟨fit_i64 (by omega), trivial⟩ fun ac wd hS => ?_
    exact pop_then (hS.next (x84 + 1) ⟨(by first | omega | assumption | (simp; done) | (simp; omega)), trivial⟩ (by dsimp only; omega))
   ·
    refine wp_exit ?_
    refine pop_then_exit ?_
    refine pop_then_exit ?_
    refine pop_block_hit ?_
    refine pop_then ?_
    refine hS.regS [0, 0] [] fun _ => seg [(6, vb true)] [(0, none)] [] trivial fun ac wd hS => ?_
    refine wp_ret ?_
    refine St.retC 0 hS (vb true) [] trivial fun hw => ?_
    refine ⟨retd rfl, hw.fr0⟩

set_option maxRecDepth 100000 in
set_option maxHeartbeats 1000000 in
theorem law06_TagsLaid_f (i : Int) (a : Int) (w : World) (hh0 : HE.holds w 0 (.fn 0 64 dbT)) :
    Calls Tryd.prog 11 #[vi i, vi a, vb false] w fun e w' => e = .returned (vb true) ∧ Fr w w' no no := by
 have hZ : TgR (comM (AM.new 1) 0 1) 96 1100 (List.replicate 1100 ((0, 0) : Int × Int)) := TgR.zero (comM_zero (fun _ => rfl) 0 1) (page_thr1 (by decide)) (by decide) (n := 1100) rfl rfl
 have hL1 := hZ.lay (i := i) (a := a) (s := 2) (by decide)
 have hL2 := hL1.2.lay (i := i) (a := a) (s := 0) (by decide)
 refine enter (args := [vi i, vi a, vb false]) (D := no) (A := []) Tryd.func11 rfl 100 rfl [(0, .fn 0 64 dbT)] (WS.startL ⟨⟨rfl, hh0⟩, trivial⟩) fun ac hS => ?_
 refine hS.regS [0] [0, 1, 2] fun _ => seg [] [(0, none)] [] trivial fun ac wd hS => ?_
 refine wp_seq ?_
 refine wp_region_seq ?_
 refine hS.call0 59 #[] 20 (law06_awake  _ (hS.mem.get 0 0 (.fn 0 64 dbT)) ) fun ac wd hS => ?_
 refine hS.opsC 1 [0] [0, 1, 2] fun _ => seg [(21, vb false)] [(0, none)] [] trivial fun ac wd hS => ?_
 refine list_nil_seq ?_
 refine hS.condF ?_
 refine wp_skip ?_
 refine pop_then ?_
 refine wp_region_seq ?_
 refine hS.callC 60 #[vi 1100] (law06_open 1100 _  (by decide)) ?_
 rintro _ wd ⟨b'1, F2, rfl, hN, hF⟩
 refine ⟨.tuple #[pt b'1 0, .agg #[pt b'1 0, vi 96, vi 1100], vb true], rfl, ?_⟩
 replace hS := (hS.to (hS.mem.newA hN hF)).put (d := 23) (v := .tuple #[pt b'1 0, .agg #[pt b'1 0, vi 96, vi 1100], vb true]) (by decide)
 clear hF
 refine hS.opsC 8 [0, 0, 0, 0, 0, 0, 100, 0] [0, 1, 2] fun ν3 => seg [(8, pt (ν3 0) 0), (9, vb true)] [(0, none), (1, some ((ν3 0), .cells [pt b'1 0, vi 96, vi 1100] 102))] [.e (ν3 0), .e (ν3 0), .e (ν3 0)] trivial fun ac wd hS => ?_
 refine list_nil_seq ?_
 refine hS.regS [0] [0, 1, 2, 8, 9] fun _ => seg [(10, v8 2)] [(0, none), (1, none)] [] trivial fun ac wd hS => ?_
 refine wp_seq ?_
 refine hS.regS [0] [0, 1, 8, 9, 10] fun _ => seg [(27, vb false)] [(0, none), (1, none)] [] trivial fun ac wd hS => ?_
 refine hS.condF ?_
 refine wp_skip ?_
 refine pop_then ?_
 refine wp_region_seq ?_
 refine hS.opsC 4 [100, 0, 0, 0] [0, 1, 8, 9, 10] fun _ => seg [(28, .agg #[pt b'1 0, vi 96, vi 1100]), (29, vi i), (30, vi a), (31, v8 2)] [(0, none), (1, none)] [.e (ν3 0), .e (ν3 0), .e (ν3 0)] trivial fun ac wd hS => ?_
 refine hS.callC 61 #[.agg #[pt b'1 0, vi 96, vi 1100], vi i, vi a, v8 2] (tags_Lay_r b'1 F2 (comM (AM.new 1) 0 1) 96 1100 i a 2 (List.replicate 1100 ((0, 0) : Int × Int)) _ (hS.mem.res 0) (by first | exact hZ | exact hL1.2) (by decide)) ?_
 rintro _ wd ⟨F3, rfl, hA, hF⟩
 refine ⟨vi (rlE (List.replicate 1100 ((0, 0) : Int × Int)) i a 2), rfl, ?_⟩
 replace hS := (hS.to (hS.mem.stepA 0 rfl hA hF)).put (d := 32) (v := vi (rlE (List.replicate 1100 ((0, 0) : Int × Int)) i a 2)) (by decide)
 clear hF
 refine hS.opsC 1 [0] [0, 1, 8, 9, 10] fun _ => seg [(11, vi (rlE (List.replicate 1100 ((0, 0) : Int × Int)) i a 2))] [(0, none), (1, none)] [] trivial fun ac wd hS => ?_
 refine list_nil_seq ?_
 refine wp_seq ?_
 refine hS.regS [0, 0] [0, 1, 8, 9, 10, 11] fun _ => seg [(34, vb (((rlE (List.replicate 1100 ((0, 0) : Int × Int)) i a 2) : Int) != 0))] [(0, none), (1, none)] [] trivial fun ac wd hS => ?_
 refine hS.condC (((rlE (List.replicate 1100 ((0, 0) : Int × Int)) i a 2) : Int) != 0) (fun hb4o hb4 => ?_) (fun hb4o hb4 => ?_)
 ·
  have hne := rlE_arg (q := (List.replicate 1100 ((0, 0) : Int × Int))) (i := i) (a := a) (s := 2) (by decide)
  refine hS.regS [0, 0, 1, 1, 1, 1, 1, 3, 3, 81, 1, 70, 0] [] fun _ => seg [(6, vb ((((rlE (List.replicate 1100 ((0, 0) : Int × Int)) i a 2) : Int) == 2) == ((decide ((a : Int) < 0)) || (decide ((10 : Int) < a)))))] [(0, none)] [.t true, .t true, .t true, .t true, .t true, .t true, .t true, .t true] trivial fun ac wd hS => ?_
  refine wp_ret ?_
  refine pop_then_ret ?_
  refine St.retC 0 hS (vb ((((rlE (List.replicate 1100 ((0, 0) : Int × Int)) i a 2) : Int) == 2) == ((decide ((a : Int) < 0)) || (decide ((10 : Int) < a))))) [] trivial fun hw => ?_
  refine ⟨retd (vbool ?_), hw.fr0⟩
  all_goals (first | rfl | (rw [hne]; exact beq_self_eq_true _))
 ·
  have hE0 : rlE (List.replicate 1100 ((0, 0) : Int × Int)) i a 2 = 0 := hb4
  obtain ⟨hy1, hy2, hy3, hy4⟩ := rlE_ok hE0
  have hpg := pgsN_bd hy2
  have hsh := pgsN_shl a
  have hE1 := rl_none hE0
  obtain ⟨hi0, hi1⟩ := rlE_in hE0
  rw [List.length_replicate] at hi1
  refine wp_skip ?_
  refine pop_then ?_
  refine wp_seq ?_
  refine hS.regS [0, 20, 0] [0, 1, 8, 9, 10] fun _ => seg [(48, vi (1 * (2 ^ Int.toNat a))), (49, vi 0)] [(0, none), (1, none)] [.p (0 ≤ a ∧ IntKind.i64.wrap (1 * 2 ^ (min (Int.toNat a) 64)) = (1 * (2 ^ Int.toNat a)))] ⟨shl2_i64 (by omega) (by omega) (by exact pgsN_sh hy2), trivial⟩ fun ac wd hS => ?_
  refine wp_block ?_
  refine St.loopC (σ := Int) (fun (x49 : Int) => ⟨[(0, [], vi i), (1, [], vi a), (8, [], pt (ν3 0) 0), (9, [], vb true), (10, [], v8 2), (48, [], vi (1 * (2 ^ Int.toNat a))), (49, [], vi x49)], [(0, .fn 0 64 dbT), ((ν3 0), .cells [pt b'1 0, vi 96, vi 1100] 102)], [arR b'1 F3 (tgLM (comM (AM.new 1) 0 1) 96 1100 i a 2)], (0 ≤ x49 ∧ x49 ≤ (1 * (2 ^ Int.toNat a) : Int)) ∧ True, Int.toNat ((1 * (2 ^ Int.toNat a) : Int) - x49)⟩) 0 ⟨(by omega), trivial⟩ hS ?_
  clear hS
  rintro x49 ⟨i0, -⟩ ac wd hS
  replace i0 : 0 ≤ x49 ∧ x49 ≤ (1 * (2 ^ Int.toNat a) : Int) := i0
  refine hS.regS [0] [0, 1, 8, 9, 10, 48, 49] fun _ => seg [(50, vb (decide ((x49 : Int) < (1 * (2 ^ Int.toNat a)))))] [(0, none), (1, none)] [] trivial fun ac wd hS => ?_
  refine wp_seq ?_
  refine hS.condC (decide ((x49 : Int) < (1 * (2 ^ Int.toNat a)))) (fun hb5o hb5 => ?_) (fun hb5o hb5 => ?_)
  ·
   have hr := run_laid (q := (List.replicate 1100 ((0, 0) : Int × Int))) (s := 2) (by decide) hE0 i0.1 (by omega)
   refine wp_skip ?_
   refine pop_then ?_
   refine wp_seq ?_
   refine wp_block ?_
   refine hS.regS [0, 0] [0, 1, 8, 9, 10, 48, 49] fun _ => seg [(12, vi x49)] [(0, none), (1, none)] [] trivial fun ac wd hS => ?_
   refine wp_region_seq ?_
   refine hS.opsC 4 [100, 0, 0, 20] [0, 1, 8, 9, 10, 48, 49] fun _ => seg [(53, .agg #[pt b'1 0, vi 96, vi 1100]), (56, vi (i + x49))] [(0, none), (1, none)] [.p (fit .i64 (i + x49)), .e (ν3 0), .e (ν3 0), .e (ν3 0)] ⟨fit_i64 (by omega), trivial⟩ fun ac wd hS => ?_
   refine hS.call0 62 #[.agg #[pt b'1 0, vi 96, vi 1100], vi (i + x49)] 57 (tags_Run_r b'1 F3 (tgLM (comM (AM.new 1) 0 1) 96 1100 i a 2) 96 1100 (i + x49) (rlQ (List.replicate 1100 ((0, 0) : Int × Int)) i a 2) _ (hS.mem.res 0) (by first | exact hL1.2 | exact hL2.2) (by first | assumption | omega | (simp_all; done) | (simp_all; omega))) fun ac wd hS => ?_
   refine hS.opsC 8 [0, 0, 0, 0, 0, 0, 200, 0] [0, 1, 8, 9, 10, 48, 49] fun ν14 => seg [(13, vi (rrV (rlQ (List.replicate 1100 ((0, 0) : Int × Int)) i a 2) (i + x49))), (14, pt (ν14 0) 0), (15, vi (rrE (rlQ (List.replicate 1100 ((0, 0) : Int × Int)) i a 2) (i + x49)))] [(0, none), (1, none), (2, some ((ν14 0), .cells [v8 (((rrT (rlQ (List.replicate 1100 ((0, 0) : Int × Int)) i a 2) (i + x49))).1), v8 (((rrT (rlQ (List.replicate 1100 ((0, 0) : Int × Int)) i a 2) (i + x49))).2)] 106))] [.e (ν14 0), .e (ν14 0)] trivial fun ac wd hS => ?_
   refine list_nil_seq ?_
   refine wp_region_seq ?_
   refine hS.opsC 8 [0, 0, 0, 3, 3, 3, 80, 0] [0, 1, 8, 9, 10, 14, 48, 49] fun _ => seg [(68, vb ((((rrE (rlQ (List.replicate 1100 ((0, 0) : Int × Int)) i a 2) (i + x49)) : Int) != 0) || (((rrV (rlQ (List.replicate 1100 ((0, 0) : Int × Int)) i a 2) (i + x49)) : Int) != i)))] [(0, none), (1, none), (2, none)] [] trivial fun ac wd hS => ?_
   have hg6o : ((((rrE (rlQ (List.replicate 1100 ((0, 0) : Int × Int)) i a 2) (i + x49)) : Int) != 0) || (((rrV (rlQ (List.replicate 1100 ((0, 0) : Int × Int)) i a 2) (i + x49)) : Int) != i)) = false := by (rw [hr.2.2, hr.1]; simp)
   replace hS := hS.fix 68 (vb false) (congrArg Value.bool hg6o)
   refine hS.opsC 5 [201, 1, 1, 21, 1] [0, 1, 8, 9, 10, 48, 49, 68] fun _ => seg [(69, .agg #[v8 (((rrT (rlQ (List.replicate 1100 ((0, 0) : Int × Int)) i a 2) (i + x49))).1), v8 (((rrT (rlQ (List.replicate 1100 ((0, 0) : Int × Int)) i a 2) (i + x49))).2)]), (73, .agg #[v8 2, v8 a])] [(0, none), (1, none)] [.t false, .t false, .p (fit .u8 a), .t false, .t false, .t false, .e (ν14 0), .e (ν14 0)] ⟨fit_u8 (by omega), trivial⟩ fun ac wd hS => ?_
   refine Runs1.listG hS 68 false ?_ (by decide)
   refine St.binS hS .neq (.tmp 69) (.tmp 73) 106 106 rfl rfl (by decide) (xs := #[v8 (((rrT (rlQ (List.replicate 1100 ((0, 0) : Int × Int)) i a 2) (i + x49))).1), v8 (((rrT (rlQ (List.replicate 1100 ((0, 0) : Int × Int)) i a 2) (i + x49))).2)]) (ys := #[v8 2, v8 a]) (r := vb (!(eqAll [((((rrT (rlQ (List.replicate 1100 ((0, 0) : Int × Int)) i a 2) (i + x49))).1 : Int), (2 : Int)), ((((rrT (rlQ (List.replicate 1100 ((0, 0) : Int × Int)) i a 2) (i + x49))).2 : Int), (a : Int))]))) (fun w => run_neS (l := [((((rrT (rlQ (List.replicate 1100 ((0, 0) : Int × Int)) i a 2) (i + x49))).1 : Int), (2 : Int)), ((((rrT (rlQ (List.replicate 1100 ((0, 0) : Int × Int)) i a 2) (i + x49))).2 : Int), (a : Int))]) w (by as_aux_lemma => kernel_rfl) (by as_aux_lemma => kernel_rfl) (by as_aux_lemma => kernel_rfl)) (by as_aux_lemma => kernel_rfl) fun ac hS => ?_
   refine hS.opsC 1 [60] [0, 1, 8, 9, 10, 48, 49] fun _ => seg [(75, vb (!(eqAll [((((rrT (rlQ (List.replicate 1100 ((0, 0) : Int × Int)) i a 2) (i + x49))).1 : Int), (2 : Int)), ((((rrT (rlQ (List.replicate 1100 ((0, 0) : Int × Int)) i a 2) (i + x49))).2 : Int), (a : Int))])))] [(0, none), (1, none)] [.t false] trivial fun ac wd hS => ?_
   refine list_nil_seq ?_
   refine hS.condK (!(eqAll [((((rrT (rlQ (List.replicate 1100 ((0, 0) : Int × Int)) i a 2) (i + x49))).1 : Int), (2 : Int)), ((((rrT (rlQ (List.replicate 1100 ((0, 0) : Int × Int)) i a 2) (i + x49))).2 : Int), (a : Int))])) false (by (rw [hr.2.1]; simp [eqAll])) ?_
   show Code.wp _ _ _ _ _
   refine wp_skip ?_
   refine pop_block ?_
   refine pop_then ?_
   refine hS.regC [20, 0] [0, 1, 8, 9, 10, 48] fun _ => seg [(49, vi (x49 + 1))] [(0, none), (1, none)] [.p (fit .i64 (x49 + 1))] ⟨fit_i64 (by omega), trivial⟩ fun ac wd hS => ?_
   exact pop_then (hS.next (x49 + 1) ⟨(by first | omega | assumption | (simp; done) | (simp; omega)), trivial⟩ (by dsimp only; omega))
  ·
   refine wp_exit ?_
   refine pop_then_exit ?_
   refine pop_then_exit ?_
   refine pop_block_hit ?_
   refine pop_then ?_
   refine wp_seq ?_
   refine wp_region_seq ?_
   refine hS.opsC 3 [100, 0, 0] [0, 1, 8, 9] fun _ => seg [(77, .agg #[pt b'1 0, vi 96, vi 1100]), (78, vi i), (79, vi a)] [(0, none), (1, none)] [.e (ν3 0), .e (ν3 0), .e (ν3 0)] trivial fun ac wd hS => ?_
   refine hS.callC 61 #[.agg #[pt b'1 0, vi 96, vi 1100], vi i, vi a, v8 0] (tags_Lay_r b'1 F3 (tgLM (comM (AM.new 1) 0 1) 96 1100 i a 2) 96 1100 i a 0 (rlQ (List.replicate 1100 ((0, 0) : Int × Int)) i a 2) _ (hS.mem.res 0) (by first | exact hZ | exact hL1.2) (by decide)) ?_
   rintro _ wd ⟨F7, rfl, hA, hF⟩
   refine ⟨vi (rlE (rlQ (List.replicate 1100 ((0, 0) : Int × Int)) i a 2) i a 0), rfl, ?_⟩
   replace hS := (hS.to (hS.mem.stepA 0 rfl hA hF)).put (d := 80) (v := vi (rlE (rlQ (List.replicate 1100 ((0, 0) : Int × Int)) i a 2) i a 0)) (by decide)
   clear hF
   refine hS.opsC 1 [0] [0, 1, 8, 9] fun _ => seg [(81, vb (((rlE (rlQ (List.replicate 1100 ((0, 0) : Int × Int)) i a 2) i a 0) : Int) != 0))] [(0, none), (1, none)] [] trivial fun ac wd hS => ?_
   refine list_nil_seq ?_
   refine hS.condK (((rlE (rlQ (List.replicate 1100 ((0, 0) : Int × Int)) i a 2) i a 0) : Int) != 0) false (by rw [hE1]; rfl) ?_
   show Code.wp _ _ _ _ _
   refine wp_skip ?_
   refine pop_then ?_
   refine wp_seq ?_
   refine hS.regS [0, 20, 0] [0, 8, 9] fun _ => seg [(83, vi (1 * (2 ^ Int.toNat a))), (84, vi 0)] [(0, none), (1, none)] [.p (0 ≤ a ∧ IntKind.i64.wrap (1 * 2 ^ (min (Int.toNat a) 64)) = (1 * (2 ^ Int.toNat a)))] ⟨shl2_i64 (by omega) (by omega) (by exact pgsN_sh hy2), trivial⟩ fun ac wd hS => ?_
   refine wp_block ?_
   refine St.loopC (σ := Int) (fun (x84 : Int) => ⟨[(0, [], vi i), (8, [], pt (ν3 0) 0), (9, [], vb true), (83, [], vi (1 * (2 ^ Int.toNat a))), (84, [], vi x84)], [(0, .fn 0 64 dbT), ((ν3 0), .cells [pt b'1 0, vi 96, vi 1100] 102)], [arR b'1 F7 (tgLM (tgLM (comM (AM.new 1) 0 1) 96 1100 i a 2) 96 1100 i a 0)], (0 ≤ x84 ∧ x84 ≤ (1 * (2 ^ Int.toNat a) : Int)) ∧ True, Int.toNat ((1 * (2 ^ Int.toNat a) : Int) - x84)⟩) 0 ⟨(by omega), trivial⟩ hS ?_
   clear hS
   rintro x84 ⟨j0, -⟩ ac wd hS
   replace j0 : 0 ≤ x84 ∧ x84 ≤ (1 * (2 ^ Int.toNat a) : Int) := j0
   refine hS.regS [0] [0, 8, 9, 83, 84] fun _ => seg [(85, vb (decide ((x84 : Int) < (1 * (2 ^ Int.toNat a)))))] [(0, none), (1, none)] [] trivial fun ac wd hS => ?_
   refine wp_seq ?_
   refine hS.condC (decide ((x84 : Int) < (1 * (2 ^ Int.toNat a)))) (fun hb8o hb8 => ?_) (fun hb8o hb8 => ?_)
   ·
    have hr8 := run_none (q := (rlQ (List.replicate 1100 ((0, 0) : Int × Int)) i a 2)) hE1 j0.1 (by omega)
    refine wp_skip ?_
    refine pop_then ?_
    refine wp_seq ?_
    refine wp_block ?_
    refine hS.regS [0, 0] [0, 8, 9, 83, 84] fun _ => seg [(16, vi x84)] [(0, none), (1, none)] [] trivial fun ac wd hS => ?_
    refine wp_region_seq ?_
    refine hS.opsC 4 [100, 0, 0, 20] [0, 8, 9, 83, 84] fun _ => seg [(88, .agg #[pt b'1 0, vi 96, vi 1100]), (91, vi (i + x84))] [(0, none), (1, none)] [.p (fit .i64 (i + x84)), .e (ν3 0), .e (ν3 0), .e (ν3 0)] ⟨fit_i64 (by omega), trivial⟩ fun ac wd hS => ?_
    refine hS.call0 62 #[.agg #[pt b'1 0, vi 96, vi 1100], vi (i + x84)] 92 (tags_Run_r b'1 F7 (tgLM (tgLM (comM (AM.new 1) 0 1) 96 1100 i a 2) 96 1100 i a 0) 96 1100 (i + x84) (rlQ (rlQ (List.replicate 1100 ((0, 0) : Int × Int)) i a 2) i a 0) _ (hS.mem.res 0) (by first | exact hL1.2 | exact hL2.2) (by first | assumption | omega | (simp_all; done) | (simp_all; omega))) fun ac wd hS => ?_
    refine hS.opsC 8 [0, 0, 0, 0, 0, 0, 200, 0] [0, 8, 9, 83, 84] fun ν25 => seg [(19, vi (rrE (rlQ (rlQ (List.replicate 1100 ((0, 0) : Int × Int)) i a 2) i a 0) (i + x84)))] [(0, none), (1, none)] [.e (ν25 0), .e (ν25 0)] trivial fun ac wd hS => ?_
    refine list_nil_seq ?_
    refine hS.regS [0, 0] [0, 8, 9, 83, 84] fun _ => seg [(97, vb (((rrE (rlQ (rlQ (List.replicate 1100 ((0, 0) : Int × Int)) i a 2) i a 0) (i + x84)) : Int) != 8))] [(0, none), (1, none)] [] trivial fun ac wd hS => ?_
    refine hS.condK (((rrE (rlQ (rlQ (List.replicate 1100 ((0, 0) : Int × Int)) i a 2) i a 0) (i + x84)) : Int) != 8) false (by (rw [hr8]; rfl)) ?_
    show Code.wp _ _ _ _ _
    refine wp_skip ?_
    refine pop_block ?_
    refine pop_then ?_
    refine hS.regC [20, 0] [0, 8, 9, 83] fun _ => seg [(84, vi (x84 + 1))] [(0, none), (1, none)] [.p (fit .i64 (x84 + 1))] ⟨fit_i64 (by omega), trivial⟩ fun ac wd hS => ?_
    exact pop_then (hS.next (x84 + 1) ⟨(by first | omega | assumption | (simp; done) | (simp; omega)), trivial⟩ (by dsimp only; omega))
   ·
    refine wp_exit ?_
    refine pop_then_exit ?_
    refine pop_then_exit ?_
    refine pop_block_hit ?_
    refine pop_then ?_
    refine hS.regS [0, 0] [] fun _ => seg [(6, vb true)] [(0, none)] [] trivial fun ac wd hS => ?_
    refine wp_ret ?_
    refine St.retC 0 hS (vb true) [] trivial fun hw => ?_
    refine ⟨retd rfl, hw.fr0⟩

end Go.Proofs.YthgkiieenojcpaaDoor.K
