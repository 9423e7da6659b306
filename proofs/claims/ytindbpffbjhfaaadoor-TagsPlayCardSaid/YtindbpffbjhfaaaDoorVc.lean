/-
  Walks, printed by w2.py.
-/
import Derived.Test.YtindbpffbjhfaaaDoorVb
import Derived.Test.YtindbpffbjhfaaaDoorOz
import Derived.Test.YtindbpffbjhfaaaDoorProg
namespace Go.Proofs.YtindbpffbjhfaaaDoor.K
set_option linter.unusedVariables false
set_option linter.unusedSimpArgs false

set_option maxRecDepth 100000 in
set_option maxHeartbeats 1000000 in
theorem l06_told (b : Nat) (F : Nat → Prop) (m : AM) (o_ : Int) (z : Int) (ao1 : Option Addr) (c1 : Nat) (g1 : Nat) (o1 : Nat) (t : List (Int × Int)) (w : World) (hr : (arR b F m).R w) (hh0 : HE.holds w g1 (.fn o1 (o1 + t.length * 2) (tgV (gtD t) o1))) (hv1 : (t.length = 0 ∨ ao1 = some ⟨g1, o1, none⟩)) (hR : TgR m o_ z t) (ht : t.length ≤ 4294967200) :
    Calls Tryd.prog 97 #[.agg #[pt b 0, vi o_, vi z], .slice ao1 t.length c1] w fun e w' => e = .returned (vb true) ∧ Fr w w' no no := by
 refine enter (args := [.agg #[pt b 0, vi o_, vi z], .slice ao1 t.length c1]) (D := no) (A := []) Tryd.func97 rfl 76 rfl [(g1, .fn o1 (o1 + t.length * 2) (tgV (gtD t) o1))] (WS.startL ⟨⟨rfl, hh0⟩, trivial⟩) fun ac hS => ?_
 refine hS.regS [0, 0] [1] fun ν1 => seg [(2, pt (ν1 0) 0)] [(0, none), (1, some ((ν1 0), .cells [pt b 0, vi o_, vi z] 184))] [] trivial fun ac wd hS => ?_
 refine wp_seq ?_
 refine hS.regS [0] [1, 2] fun _ => seg [(5, vi (-1))] [(0, none), (1, none)] [] trivial fun ac wd hS => ?_
 refine wp_block ?_
 refine St.loopC (σ := Int) (fun (x5 : Int) => ⟨[(1, [], .slice ao1 t.length c1), (2, [], pt (ν1 0) 0), (5, [], vi x5)], [(g1, .fn o1 (o1 + t.length * 2) (tgV (gtD t) o1)), ((ν1 0), .cells [pt b 0, vi o_, vi z] 184)], [], (-1 ≤ x5 ∧ x5 ≤ ((t.length : Nat) : Int) + 1) ∧ True, Int.toNat (t.length + 1 - x5)⟩) (-1) ⟨(by omega), trivial⟩ hS ?_
 clear hS
 rintro x5 ⟨i0, -⟩ ac wd hS
 replace i0 : -1 ≤ x5 ∧ x5 ≤ ((t.length : Nat) : Int) + 1 := i0
 refine wp_seq ?_
 refine hS.regS [0, 0, 0, 0] [1, 2, 5] fun _ => seg [(19, vb (decide ((x5 : Int) ≤ ((t.length : Nat) : Int))))] [(0, none), (1, none)] [] trivial fun ac wd hS => ?_
 refine hS.condC (decide ((x5 : Int) ≤ ((t.length : Nat) : Int))) (fun hb1o hb1 => ?_) (fun hb1o hb1 => ?_)
 ·
  refine wp_skip ?_
  refine pop_then ?_
  refine wp_seq ?_
  refine wp_block ?_
  refine wp_region_seq ?_
  refine hS.opsC 2 [100, 0] [1, 2, 5] fun _ => seg [(23, .agg #[pt b 0, vi o_, vi z]), (24, vi x5)] [(0, none), (1, none)] [.e (ν1 0), .e (ν1 0), .e (ν1 0)] trivial fun ac wd hS => ?_
  refine hS.call0 172 #[.agg #[pt b 0, vi o_, vi z], vi x5] 25 (tags_Get_r b F m o_ z x5 t _ (Res.keep hr hS.mem.fr) (by first | assumption | omega | (simp_all; done) | (simp_all; omega))) fun ac wd hS => ?_
  refine hS.opsC 6 [0, 0, 0, 0, 200, 0] [1, 2, 5] fun ν5 => seg [(6, pt (ν5 0) 0), (7, vi (rgE t x5))] [(0, none), (1, none), (2, some ((ν5 0), .cells [v8 (((rgV t x5)).1), v8 (((rgV t x5)).2)] 266))] [.e (ν5 0), .e (ν5 0)] trivial fun ac wd hS => ?_
  refine list_nil_seq ?_
  refine wp_region_seq ?_
  refine hS.opsC 2 [0, 0] [1, 2, 5, 6, 7] fun _ => seg [(29, .slice ao1 t.length c1), (30, vi x5)] [(0, none), (1, none), (2, none)] [] trivial fun ac wd hS => ?_
  refine hS.call0 173 #[.slice ao1 t.length c1, vi x5] 31 (r06_Get ao1 c1 g1 o1 t x5 _ (hS.mem.get 0 g1 (.fn o1 (o1 + t.length * 2) (tgV (gtD t) o1))) hv1 (by first | assumption | omega | (simp_all; done) | (simp_all; omega))) fun ac wd hS => ?_
  refine hS.opsC 6 [0, 0, 0, 0, 300, 0] [1, 2, 5, 6, 7] fun ν7 => seg [(8, pt (ν7 0) 0), (9, vi (rgE t x5))] [(0, none), (1, none), (2, none), (3, some ((ν7 0), .cells [v8 (((rgV t x5)).1), v8 (((rgV t x5)).2)] 271))] [.e (ν7 0), .e (ν7 0)] trivial fun ac wd hS => ?_
  refine list_nil_seq ?_
  refine wp_region_seq ?_
  refine hS.opsC 2 [100, 0] [1, 2, 5, 6, 7, 8, 9] fun _ => seg [(35, .agg #[pt b 0, vi o_, vi z]), (36, vi x5)] [(0, none), (1, none), (2, none), (3, none)] [.e (ν1 0), .e (ν1 0), .e (ν1 0)] trivial fun ac wd hS => ?_
  refine hS.call0 167 #[.agg #[pt b 0, vi o_, vi z], vi x5] 37 (tags_Run_r b F m o_ z x5 t _ (Res.keep hr hS.mem.fr) (by first | assumption | omega | (simp_all; done) | (simp_all; omega)) (by first | assumption | omega | (simp_all; done) | (simp_all; omega))) fun ac wd hS => ?_
  refine hS.opsC 8 [0, 0, 0, 0, 0, 0, 400, 0] [1, 2, 5, 6, 7, 8, 9] fun ν9 => seg [(10, vi (rrV t x5)), (11, pt (ν9 0) 0), (12, vi (rrE t x5))] [(0, none), (1, none), (2, none), (3, none), (4, some ((ν9 0), .cells [v8 (((rrT t x5)).1), v8 (((rrT t x5)).2)] 266))] [.e (ν9 0), .e (ν9 0)] trivial fun ac wd hS => ?_
  refine list_nil_seq ?_
  refine wp_region_seq ?_
  refine hS.opsC 2 [0, 0] [1, 2, 5, 6, 7, 8, 9, 10, 11, 12] fun _ => seg [(42, .slice ao1 t.length c1), (43, vi x5)] [(0, none), (1, none), (2, none), (3, none), (4, none)] [] trivial fun ac wd hS => ?_
  refine hS.call0 174 #[.slice ao1 t.length c1, vi x5] 44 (r06_Run ao1 c1 g1 o1 t x5 _ (hS.mem.get 0 g1 (.fn o1 (o1 + t.length * 2) (tgV (gtD t) o1))) hv1 (by first | assumption | omega | (simp_all; done) | (simp_all; omega)) (by exact hR.rng)) fun ac wd hS => ?_
  refine hS.opsC 8 [0, 0, 0, 0, 0, 0, 500, 0] [1, 2, 5, 6, 7, 8, 9, 10, 11, 12] fun ν11 => seg [(13, vi (rrV t x5)), (14, pt (ν11 0) 0), (15, vi (rrE t x5))] [(0, none), (1, none), (2, none), (3, none), (4, none), (5, some ((ν11 0), .cells [v8 (((rrT t x5)).1), v8 (((rrT t x5)).2)] 271))] [.e (ν11 0), .e (ν11 0)] trivial fun ac wd hS => ?_
  refine list_nil_seq ?_
  refine wp_region_seq ?_
  refine hS.opsC 2 [200, 300] [1, 2, 5, 7, 9, 10, 11, 12, 13, 14, 15] fun _ => seg [(48, .agg #[v8 (((rgV t x5)).1), v8 (((rgV t x5)).2)]), (49, .agg #[v8 (((rgV t x5)).1), v8 (((rgV t x5)).2)])] [(0, none), (1, none), (4, none), (5, none)] [.e (ν7 0), .e (ν7 0), .e (ν5 0), .e (ν5 0)] trivial fun ac wd hS => ?_
  refine Runs1.list ?_
  refine St.binS hS .neq (.tmp 48) (.tmp 49) 271 271 rfl rfl (by decide) (xs := #[v8 (((rgV t x5)).1), v8 (((rgV t x5)).2)]) (ys := #[v8 (((rgV t x5)).1), v8 (((rgV t x5)).2)]) (r := vb (!(eqAll [((((rgV t x5)).1 : Int), (((rgV t x5)).1 : Int)), ((((rgV t x5)).2 : Int), (((rgV t x5)).2 : Int))]))) (fun w => run_neS (l := [((((rgV t x5)).1 : Int), (((rgV t x5)).1 : Int)), ((((rgV t x5)).2 : Int), (((rgV t x5)).2 : Int))]) w (by as_aux_lemma => kernel_rfl) (by as_aux_lemma => kernel_rfl) (by as_aux_lemma => kernel_rfl)) (by as_aux_lemma => kernel_rfl) fun ac hS => ?_
  replace hS := hS.fix 50 (vb false) (show (vb (!(eqAll [((((rgV t x5)).1 : Int), (((rgV t x5)).1 : Int)), ((((rgV t x5)).2 : Int), (((rgV t x5)).2 : Int))])) : Value) = vb false from vbool (by simp [eqAll]))
  refine hS.opsC 11 [0, 1, 1, fx 1 (vb false), 60, 0, 1, 1, fx 1 (vb false), 60, 0] [1, 2, 5, 11, 12, 14, 15] fun _ => seg [(61, vb false)] [(0, none), (1, none), (2, none), (3, none)] [.t false, .t false, .p ((vb (((rrV t x5) : Int) != (rrV t x5)) : Value) = vb false), .t false, .t false, .t false, .t false, .p ((vb (((rgE t x5) : Int) != (rgE t x5)) : Value) = vb false), .t false, .t false] ⟨(congrArg Value.bool (bne_self_eq_false _)), (congrArg Value.bool (bne_self_eq_false _)), trivial⟩ fun ac wd hS => ?_
  refine hS.opsC 2 [201, 301] [1, 2, 5, 12, 15, 61] fun _ => seg [(62, .agg #[v8 (((rrT t x5)).1), v8 (((rrT t x5)).2)]), (63, .agg #[v8 (((rrT t x5)).1), v8 (((rrT t x5)).2)])] [(0, none), (1, none)] [.t false, .e (ν11 0), .e (ν11 0), .t false, .e (ν9 0), .e (ν9 0)] trivial fun ac wd hS => ?_
  refine Runs1.listG hS 61 false ?_ (by decide)
  refine St.binS hS .neq (.tmp 62) (.tmp 63) 271 271 rfl rfl (by decide) (xs := #[v8 (((rrT t x5)).1), v8 (((rrT t x5)).2)]) (ys := #[v8 (((rrT t x5)).1), v8 (((rrT t x5)).2)]) (r := vb (!(eqAll [((((rrT t x5)).1 : Int), (((rrT t x5)).1 : Int)), ((((rrT t x5)).2 : Int), (((rrT t x5)).2 : Int))]))) (fun w => run_neS (l := [((((rrT t x5)).1 : Int), (((rrT t x5)).1 : Int)), ((((rrT t x5)).2 : Int), (((rrT t x5)).2 : Int))]) w (by as_aux_lemma => kernel_rfl) (by as_aux_lemma => kernel_rfl) (by as_aux_lemma => kernel_rfl)) (by as_aux_lemma => kernel_rfl) fun ac hS => ?_
  replace hS := hS.fix 64 (vb false) (show (vb (!(eqAll [((((rrT t x5)).1 : Int), (((rrT t x5)).1 : Int)), ((((rrT t x5)).2 : Int), (((rrT t x5)).2 : Int))])) : Value) = vb false from vbool (by simp [eqAll]))
  refine hS.opsC 6 [60, 0, 1, 1, fx 1 (vb false), 60] [1, 2, 5] fun _ => seg [(70, vb false)] [(0, none), (1, none)] [.t false, .t false, .p ((vb (((rrE t x5) : Int) != (rrE t x5)) : Value) = vb false), .t false, .t false, .t false] ⟨(congrArg Value.bool (bne_self_eq_false _)), trivial⟩ fun ac wd hS => ?_
  refine list_nil_seq ?_
  refine hS.condF ?_
  refine wp_skip ?_
  refine pop_block ?_
  refine pop_then ?_
  refine hS.regC [0, 20, 0] [1, 2] fun _ => seg [(5, vi (x5 + 1))] [(0, none), (1, none)] [.p (fit .i64 (x5 + 1))] ⟨fit_i64 (by omega), trivial⟩ fun ac wd hS => ?_
  exact pop_then (hS.next (x5 + 1) ⟨(by first | omega | assumption | (simp; done) | (simp; omega)), trivial⟩ (by dsimp only; omega))
 ·
  refine wp_exit ?_
  refine pop_then_exit ?_
  refine pop_then_exit ?_
  refine pop_block_hit ?_
  refine pop_then ?_
  refine wp_region_seq ?_
  refine hS.opsC 1 [100] [1] fun _ => seg [(71, .agg #[pt b 0, vi o_, vi z])] [(0, none)] [.e (ν1 0), .e (ν1 0), .e (ν1 0)] trivial fun ac wd hS => ?_
  refine hS.call0 175 #[.agg #[pt b 0, vi o_, vi z]] 72 (tags_Len b o_ z _  ) fun ac wd hS => ?_
  refine hS.opsC 4 [0, 0, 0, 0] [] fun _ => seg [(4, vb ((z : Int) == ((t.length : Nat) : Int)))] [] [] trivial fun ac wd hS => ?_
  refine list_nil_seq ?_
  refine wp_ret ?_
  refine St.retC 0 hS (vb ((z : Int) == ((t.length : Nat) : Int))) [] trivial fun hw => ?_
  refine ⟨retd (vbool ?_), hw.fr0⟩
  all_goals (first | rfl | (rw [hR.len]; simp; done))

set_option maxRecDepth 100000 in
set_option maxHeartbeats 1000000 in
theorem law06_TagsPlay (pages : Int) (ao7 : Option Addr) (c7 : Nat) (g7 : Nat) (o7 : Nat) (l : List (Int × Int × Int)) (w : World) (hh0 : HE.holds w 1 (.fn 0 64 dbT)) (hh1 : HE.holds w g7 (.fn o7 (o7 + l.length * 3) (aTV (gtD l) o7))) (hv7 : (l.length = 0 ∨ ao7 = some ⟨g7, o7, none⟩)) (hsz : 0 ≤ pages ∧ pages ≤ 65535) (hAl : ∀ i, i < l.length → rg_aTV (gtD l i)) :
    Calls Tryd.prog 13 #[.int .u16 pages, .slice ao7 l.length c7] w fun e w' => e = .returned (vb true) ∧ Fr w w' no no := by
 refine enter (args := [.int .u16 pages, .slice ao7 l.length c7]) (D := no) (A := []) Tryd.func13 rfl 86 rfl [(1, .fn 0 64 dbT), (g7, .fn o7 (o7 + l.length * 3) (aTV (gtD l) o7))] (WS.startL ⟨⟨rfl, hh0⟩, ⟨rfl, hh1⟩, trivial⟩) fun ac hS => ?_
 refine hS.regS [0] [0, 1] fun _ => seg [] [(0, none), (1, none)] [] trivial fun ac wd hS => ?_
 refine wp_seq ?_
 refine wp_region_seq ?_
 refine hS.call0 93 #[] 17 (law06_awake  _ (hS.mem.get 0 1 (.fn 0 64 dbT)) ) fun ac wd hS => ?_
 refine hS.opsC 1 [0] [0, 1] fun _ => seg [(18, vb false)] [(0, none), (1, none)] [] trivial fun ac wd hS => ?_
 refine list_nil_seq ?_
 refine hS.condF ?_
 refine wp_skip ?_
 refine pop_then ?_
 refine wp_seq ?_
 refine hS.regS [0, 0, 0] [0, 1] fun _ => seg [(21, vb (decide ((40 : Int) < ((l.length : Nat) : Int))))] [(0, none), (1, none)] [] trivial fun ac wd hS => ?_
 refine hS.condC (decide ((40 : Int) < ((l.length : Nat) : Int))) (fun hb1o hb1 => ?_) (fun hb1o hb1 => ?_)
 ·
  refine hS.regS [0] [] fun _ => seg [(4, vb true)] [(0, none)] [] trivial fun ac wd hS => ?_
  refine wp_ret ?_
  refine pop_then_ret ?_
  refine St.retC 0 hS (vb true) [] trivial fun hw => ?_
  refine ⟨retd rfl, hw.fr0⟩
 ·
  refine wp_skip ?_
  refine pop_then ?_
  refine hS.regS [0, 20, 20, 0] [1] fun _ => seg [(5, vi (pages % 301))] [(0, none), (1, none)] [.p ((301 : Int) ≠ 0 ∧ Int.tmod pages 301 = pages % 301), .p (fit .i64 pages)] ⟨rem2 (by omega) (by omega), fit_i64 (by omega), trivial⟩ fun ac wd hS => ?_
  obtain ⟨nn, nn_e⟩ : ∃ q_ : Int, q_ = (pages % 301) := ⟨_, rfl⟩
  replace hS := hS.fix 5 (vi nn) (show (vi (pages % 301) : Value) = vi nn by rw [nn_e])
  have hnn : 0 ≤ nn ∧ nn ≤ 300 := by omega
  clear nn_e
  refine wp_region_seq ?_
  refine hS.opsC 1 [0] [1, 5] fun _ => seg [(26, vi nn)] [(0, none), (1, none)] [] trivial fun ac wd hS => ?_
  refine hS.callC 94 #[vi nn] (law06_open nn _  (by omega)) ?_
  rintro _ wd ⟨b'2, F3, rfl, hN, hF⟩
  refine ⟨.tuple #[pt b'2 0, .agg #[pt b'2 0, vi 96, vi nn], vb true], rfl, ?_⟩
  replace hS := (hS.to (hS.mem.newA hN hF)).put (d := 27) (v := .tuple #[pt b'2 0, .agg #[pt b'2 0, vi 96, vi nn], vb true]) (by decide)
  clear hF
  refine hS.opsC 8 [0, 0, 0, 0, 0, 0, 200, 0] [1, 5] fun ν7 => seg [(6, pt b'2 0), (7, pt (ν7 0) 0), (8, vb true)] [(0, none), (1, none), (2, some ((ν7 0), .cells [pt b'2 0, vi 96, vi nn] 184))] [.e (ν7 0), .e (ν7 0), .e (ν7 0)] trivial fun ac wd hS => ?_
  refine list_nil_seq ?_
  refine wp_seq ?_
  refine hS.regS [0, 0] [1, 5, 6, 7] fun _ => seg [(32, vb false)] [(0, none), (1, none), (2, none)] [] trivial fun ac wd hS => ?_
  refine hS.condF ?_
  refine wp_skip ?_
  refine pop_then ?_
  refine wp_region_seq ?_
  refine hS.opsC 1 [0] [1, 5, 6, 7] fun _ => seg [(33, vi nn)] [(0, none), (1, none), (2, none)] [] trivial fun ac wd hS => ?_
  refine Runs1.list ?_
  obtain ⟨i_, hi_, hz_, hs_, hb_⟩ := info_get (P := Tryd.prog) (e := 271) (z := .agg #[v8 0, v8 0]) (s := 2) (b := 2) (by kernel_rfl)
  refine St.makeV hS 187 (.tmp 33) (.tmp 33) rfl rfl (by decide) Tryd.underlying187 hi_ hz_ hs_ rfl (by omega) (by decide) (q := nn) (q2 := nn) rfl (by omega) (f := (tgV (fun _ => (0, 0)) 0)) (tgV_zero) fun ac wd gm4 hm5 hS => ?_
  refine hS.opsC 1 [0] [1, 5, 6, 7] fun _ => seg [(9, sc gm4 0 (Int.toNat nn) (Int.toNat nn))] [(0, none), (1, none), (2, none), (3, none)] [] trivial fun ac wd hS => ?_
  refine list_nil_seq ?_
  refine wp_seq ?_
  refine hS.regS [0, 0, 0] [5, 6, 7, 9] fun _ => seg [(35, .slice ao7 l.length c7), (36, vi ((l.length : Nat) : Int)), (37, vi 0)] [(0, none), (1, none), (2, none), (3, none)] [] trivial fun ac wd hS => ?_
  refine wp_block ?_
  have hZ : TgR (comM (AM.new 1) 0 1) 96 nn (List.replicate (Int.toNat nn) ((0, 0) : Int × Int)) := TgR.zero (comM_zero (fun _ => rfl) 0 1) (page_thr1 (by omega)) (by decide) (n := Int.toNat nn) (by omega) rfl
  have hn_ : (List.replicate (Int.toNat nn) ((0, 0) : Int × Int)).length = (Int.toNat nn) := by first | rfl | simp
  replace hS := hS.fix 9 (sc gm4 0 ((List.replicate (Int.toNat nn) ((0, 0) : Int × Int)).length) (Int.toNat nn)) (show (sc gm4 0 (Int.toNat nn) (Int.toNat nn) : Value) = sc gm4 0 ((List.replicate (Int.toNat nn) ((0, 0) : Int × Int)).length) (Int.toNat nn) by rw [hn_])
  replace hS := hS.to (hS.mem.share (b := gm4) (e := 271) (m := ((Int.toNat nn) * 2)) (tot := ((Int.toNat nn) * 2)) (f := (tgV (fun _ => (0, 0)) 0)) 3 (0 + (List.replicate (Int.toNat nn) ((0, 0) : Int × Int)).length * 2) (tgV (gtD (List.replicate (Int.toNat nn) ((0, 0) : Int × Int))) 0) (by omega) (tgV_cg0 (fun i hi => (gtD_rep hi).symm)))
  refine St.loopC (σ := Int × (Nat → Prop) × AM × Option Addr × Nat × Nat × Nat × (List (Int × Int))) (fun (x : Int × (Nat → Prop) × AM × Option Addr × Nat × Nat × Nat × (List (Int × Int))) => match x with | (x37, Fx, mx, aoq, cq, gq, oq, lq) => ⟨[(5, [], vi nn), (6, [], pt b'2 0), (7, [], pt (ν7 0) 0), (9, [], .slice aoq lq.length cq), (35, [], .slice ao7 l.length c7), (36, [], vi ((l.length : Nat) : Int)), (37, [], vi x37)], [(1, .fn 0 64 dbT), (g7, .fn o7 (o7 + l.length * 3) (aTV (gtD l) o7)), ((ν7 0), .cells [pt b'2 0, vi 96, vi nn] 184), (gq, .fn oq (oq + lq.length * 2) (tgV (gtD lq) oq))], [arR b'2 Fx mx], (0 ≤ x37 ∧ x37 ≤ ((l.length : Nat) : Int)) ∧ (TgR mx 96 nn lq) ∧ (lq.length = 0 ∨ aoq = some ⟨gq, oq, none⟩) ∧ True, l.length - Int.toNat x37⟩) (0, F3, (comM (AM.new 1) 0 1), (some ⟨gm4, 0, none⟩), (Int.toNat nn), gm4, 0, (List.replicate (Int.toNat nn) ((0, 0) : Int × Int))) ⟨(by omega), (by exact hZ), (by exact (.inr rfl)), trivial⟩ hS ?_
  clear hS
  rintro ⟨x37, Fx, mx, aoq, cq, gq, oq, lq⟩ ⟨i0, i1, hvq, -⟩ ac wd hS
  replace i0 : 0 ≤ x37 ∧ x37 ≤ ((l.length : Nat) : Int) := i0
  replace i1 : TgR mx 96 nn lq := i1
  replace hvq : lq.length = 0 ∨ aoq = some ⟨gq, oq, none⟩ := hvq
  refine hS.regS [0] [5, 6, 7, 9, 35, 36, 37] fun _ => seg [(38, vb (decide ((x37 : Int) < ((l.length : Nat) : Int))))] [(0, none), (1, none), (2, none), (3, none)] [] trivial fun ac wd hS => ?_
  refine wp_seq ?_
  refine hS.condC (decide ((x37 : Int) < ((l.length : Nat) : Int))) (fun hb6o hb6 => ?_) (fun hb6o hb6 => ?_)
  ·
   refine wp_skip ?_
   refine pop_then ?_
   refine wp_seq ?_
   refine wp_block ?_
   obtain rfl : ao7 = some ⟨g7, o7, none⟩ := Or.resolve_left hv7 (by omega)
   refine hS.regS [20, fx 100 (.agg #[vi (((gtD l) (Int.toNat x37)).1), vi (((gtD l) (Int.toNat x37)).2.1), v8 (((gtD l) (Int.toNat x37)).2.2)]), 0, 400] [5, 6, 7, 9, 35, 36, 37] fun ν13 => seg [(11, pt (ν13 0) 0)] [(0, none), (1, none), (2, none), (3, none), (4, some ((ν13 0), .cells [vi (((gtD l) (Int.toNat x37)).1), vi (((gtD l) (Int.toNat x37)).2.1), v8 (((gtD l) (Int.toNat x37)).2.2)] 189))] [.e (ν13 0), .e (ν13 0), .e (ν13 0), .p ((.agg #[((aTV (gtD l) o7) (o7 + Int.toNat x37 * 3)), ((aTV (gtD l) o7) (o7 + Int.toNat x37 * 3 + 1)), ((aTV (gtD l) o7) (o7 + Int.toNat x37 * 3 + 2))] : Value) = .agg #[vi (((gtD l) (Int.toNat x37)).1), vi (((gtD l) (Int.toNat x37)).2.1), v8 (((gtD l) (Int.toNat x37)).2.2)]), .e g7, .p (o7 ≤ o7 + Int.toNat x37 * 3 + 2 ∧ o7 + Int.toNat x37 * 3 + 2 < (o7 + l.length * 3)), .e g7, .p (o7 ≤ o7 + Int.toNat x37 * 3 + 1 ∧ o7 + Int.toNat x37 * 3 + 1 < (o7 + l.length * 3)), .e g7, .p (o7 ≤ o7 + Int.toNat x37 * 3 ∧ o7 + Int.toNat x37 * 3 < (o7 + l.length * 3)), .p ((0 : Int) ≤ x37 ∧ (x37 : Int) < ((l.length : Nat) : Int))] ⟨(agg3 (aTV_0 (gtD l) o7 (Int.toNat x37)) (aTV_1 (gtD l) o7 (Int.toNat x37)) (aTV_2 (gtD l) o7 (Int.toNat x37))), (by omega), (by omega), (by omega), (by omega), trivial⟩ fun ac wd hS => ?_
   obtain ⟨ki, ki_e⟩ : ∃ q_ : Int, q_ = ((gtD l) (Int.toNat x37)).1 := ⟨_, rfl⟩
   obtain ⟨ko, ko_e⟩ : ∃ q_ : Int, q_ = ((gtD l) (Int.toNat x37)).2.1 := ⟨_, rfl⟩
   obtain ⟨ks, ks_e⟩ : ∃ q_ : Int, q_ = ((gtD l) (Int.toNat x37)).2.2 := ⟨_, rfl⟩
   replace hS := hS.to (hS.mem.tell 4 (b := (ν13 0)) (x := (.cells [vi (((gtD l) (Int.toNat x37)).1), vi (((gtD l) (Int.toNat x37)).2.1), v8 (((gtD l) (Int.toNat x37)).2.2)] 189)) (.cells [vi ki, vi ko, v8 ks] 189) (hh := fun h_ => by rw [ki_e, ko_e, ks_e]; exact h_))
   have hac := hAl _ (show Int.toNat x37 < l.length by omega)
   unfold rg_aTV at hac
   rw [← ki_e, ← ko_e, ← ks_e] at hac
   clear ki_e ko_e ks_e
   obtain ⟨hac1, hac2, hac3, _⟩ := hac
   have hql := i1.len
   have hqr := rlQ_len lq ki ko ks
   refine wp_region_seq ?_
   refine hS.opsC 7 [200, 0, 400, 0, 400, 0, 400] [5, 6, 7, 9, 11, 35, 36, 37] fun _ => seg [(41, .agg #[pt b'2 0, vi 96, vi nn]), (43, vi ki), (45, vi ko), (47, v8 ks)] [(0, none), (1, none), (2, none), (3, none), (4, none)] [.e (ν13 0), .e (ν13 0), .e (ν13 0), .e (ν7 0), .e (ν7 0), .e (ν7 0)] trivial fun ac wd hS => ?_
   refine hS.callC 95 #[.agg #[pt b'2 0, vi 96, vi nn], vi ki, vi ko, v8 ks] (tags_Lay_r b'2 Fx mx 96 nn ki ko ks lq _ (hS.mem.res 0) (by exact i1) (by first | assumption | omega | (simp_all; done) | (simp_all; omega))) ?_
   rintro _ wd ⟨F7, rfl, hA, hF⟩
   refine ⟨vi (rlE lq ki ko ks), rfl, ?_⟩
   replace hS := (hS.to (hS.mem.stepA 0 rfl hA hF)).put (d := 48) (v := vi (rlE lq ki ko ks)) (by decide)
   clear hF
   refine hS.opsC 1 [0] [5, 6, 7, 9, 11, 35, 36, 37] fun _ => seg [(12, vi (rlE lq ki ko ks))] [(0, none), (1, none), (2, none), (3, none), (4, none)] [] trivial fun ac wd hS => ?_
   refine list_nil_seq ?_
   refine wp_region_seq ?_
   refine hS.opsC 7 [0, 0, 400, 0, 400, 0, 400] [5, 6, 7, 12, 35, 36, 37] fun _ => seg [(50, .slice aoq lq.length cq), (52, vi ki), (54, vi ko), (56, v8 ks)] [(0, none), (1, none), (2, none), (3, none)] [.e (ν13 0), .e (ν13 0), .e (ν13 0)] trivial fun ac wd hS => ?_
   refine hS.callC 96 #[.slice aoq lq.length cq, vi ki, vi ko, v8 ks] (r06_Lay aoq cq gq oq lq ki ko ks _ (hS.mem.get 3 gq (.fn oq (oq + lq.length * 2) (tgV (gtD lq) oq))) hvq (by first | assumption | omega | (simp_all; done) | (simp_all; omega)) (by first | assumption | omega | (simp_all; done) | (simp_all; omega))) ?_
   rintro _ wd ⟨ao28, c29, g210, o211, rfl, hv212, hog0, hoh0, hF⟩
   have ho13 : g210 = gq ∨ w.heap.size ≤ g210 := by have := hS.mem.fr.size; have : w.heap.size ≤ _ := this; omega
   refine ⟨.tuple #[.slice ao28 ((rlQ lq ki ko ks).length) c29, vi (rlE lq ki ko ks)], rfl, ?_⟩
   replace hS := (hS.to (hS.mem.outs hF [(g210, .fn o211 (o211 + (rlQ lq ki ko ks).length * 2) (tgV (gtD (rlQ lq ki ko ks)) o211))] ⟨⟨rfl, hoh0, (fun q_ => q_.elim (fun e => .inl ⟨3, .fn oq (oq + lq.length * 2) (tgV (gtD lq) oq), by rw [e]; as_aux_lemma => kernel_rfl, rfl⟩) (fun q_ => .inr q_)) hog0⟩, trivial⟩)).put (d := 57) (v := .tuple #[.slice ao28 ((rlQ lq ki ko ks).length) c29, vi (rlE lq ki ko ks)]) (by decide)
   clear hF
   refine hS.opsC 5 [0, 0, 0, 0, 0] [5, 6, 7, 12, 35, 36, 37] fun _ => seg [(13, .slice ao28 ((rlQ lq ki ko ks).length) c29), (14, vi (rlE lq ki ko ks))] [(0, none), (1, none), (2, none), (4, none)] [] trivial fun ac wd hS => ?_
   refine list_nil_seq ?_
   refine wp_seq ?_
   refine wp_region_seq ?_
   refine hS.opsC 4 [0, 0, fx 0 (vb false), 0] [5, 6, 7, 13, 35, 36, 37] fun _ => seg [(63, vb false)] [(0, none), (1, none), (2, none), (3, none)] [.p ((vb (((rlE lq ki ko ks) : Int) != (rlE lq ki ko ks)) : Value) = vb false)] ⟨(congrArg Value.bool (bne_self_eq_false _)), trivial⟩ fun ac wd hS => ?_
   refine hS.opsC 2 [201, 1] [5, 6, 7, 13, 35, 36, 37, 63] fun _ => seg [(64, .agg #[pt b'2 0, vi 96, vi nn]), (65, .slice ao28 ((rlQ lq ki ko ks).length) c29)] [(0, none), (1, none), (2, none), (3, none)] [.t false, .t false, .e (ν7 0), .e (ν7 0), .e (ν7 0)] trivial fun ac wd hS => ?_
   refine hS.callG false 97 #[.agg #[pt b'2 0, vi 96, vi nn], .slice ao28 ((rlQ lq ki ko ks).length) c29] (l06_told b'2 F7 (tgLM mx 96 nn ki ko ks) 96 nn ao28 c29 g210 o211 (rlQ lq ki ko ks) _ (hS.mem.res 0) (hS.mem.get 3 g210 (.fn o211 (o211 + (rlQ lq ki ko ks).length * 2) (tgV (gtD (rlQ lq ki ko ks)) o211))) hv212 (by first | exact (i1.lay hac3.1).2 | exact i1) (by first | omega | (have hql := i1.len; omega))) ?_
   rintro _ wd ⟨rfl, hF⟩
   refine ⟨vb true, rfl, ?_⟩
   replace hS := (hS.to (hS.mem.keep0 hF)).put (d := 66) (v := vb true) (by decide)
   clear hF
   refine hS.opsC 2 [1, 60] [5, 6, 7, 13, 35, 36, 37] fun _ => seg [(68, vb false)] [(0, none), (1, none), (2, none), (3, none)] [.t false, .t false] trivial fun ac wd hS => ?_
   refine list_nil_seq ?_
   refine hS.condF ?_
   refine wp_skip ?_
   refine pop_then ?_
   refine hS.regC [0, 0] [5, 6, 7, 35, 36, 37] fun _ => seg [(9, .slice ao28 ((rlQ lq ki ko ks).length) c29)] [(0, none), (1, none), (2, none), (3, none)] [] trivial fun ac wd hS => ?_
   refine pop_block ?_
   refine pop_then ?_
   refine hS.regC [20, 0] [5, 6, 7, 9, 35, 36] fun _ => seg [(37, vi (x37 + 1))] [(0, none), (1, none), (2, none), (3, none)] [.p (fit .i64 (x37 + 1))] ⟨fit_i64 (by omega), trivial⟩ fun ac wd hS => ?_
   replace hS := hS.perm (H' := [(1, .fn 0 64 dbT), (g7, .fn o7 (o7 + l.length * 3) (aTV (gtD l) o7)), ((ν7 0), .cells [pt b'2 0, vi 96, vi nn] 184), (g210, .fn o211 (o211 + (rlQ lq ki ko ks).length * 2) (tgV (gtD (rlQ lq ki ko ks)) o211))]) [0, 1, 2, 3] (by as_aux_lemma => kernel_rfl) (by decide)
   exact pop_then (hS.next ((x37 + 1), F7, (tgLM mx 96 nn ki ko ks), ao28, c29, g210, o211, (rlQ lq ki ko ks)) ⟨(by omega), (by exact (i1.lay hac3.1).2), (by exact hv212), trivial⟩ (by dsimp only; omega))
  ·
   refine wp_exit ?_
   refine pop_then_exit ?_
   refine pop_then_exit ?_
   refine pop_block_hit ?_
   refine pop_then ?_
   refine wp_region_seq ?_
   refine hS.opsC 1 [0] [5, 9] fun _ => seg [(72, pt b'2 0)] [(0, none), (3, none)] [] trivial fun ac wd hS => ?_
   refine hS.callC 29 #[pt b'2 0] (ar_Clone b'2 Fx mx _ (hS.mem.res 0) ) ?_
   rintro _ wd ⟨b'14, F15, rfl, hN, hF⟩
   refine ⟨pt b'14 0, rfl, ?_⟩
   replace hS := (hS.to (hS.mem.stepA 0 (r' := arR b'14 F15 mx) rfl hN hF)).put (d := 73) (v := pt b'14 0) (by decide)
   clear hF
   refine hS.opsC 1 [0] [9, 73] fun _ => seg [(74, vi nn)] [(0, none), (1, none)] [] trivial fun ac wd hS => ?_
   refine hS.call0 28 #[pt b'14 0, vi 96, vi nn] 75 (vw_Of b'14 F15 mx 96 nn _ (hS.mem.res 0) (by exact i1.there)) fun ac wd hS => ?_
   refine hS.opsC 6 [0, 0, 0, 0, 200, 0] [9] fun ν25 => seg [(15, pt (ν25 0) 0), (16, vi 0)] [(0, none), (1, none), (2, some ((ν25 0), .cells [pt b'14 0, vi 96, vi nn] 25))] [.e (ν25 0), .e (ν25 0), .e (ν25 0)] trivial fun ac wd hS => ?_
   refine list_nil_seq ?_
   refine wp_region_seq ?_
   refine hS.opsC 3 [0, 0, 0] [9, 15] fun _ => seg [(80, vb true)] [(0, none), (1, none), (2, none)] [] trivial fun ac wd hS => ?_
   refine hS.opsC 1 [201] [9, 80] fun _ => seg [(81, .agg #[pt b'14 0, vi 96, vi nn])] [(0, none), (1, none)] [.t true, .e (ν25 0), .e (ν25 0), .e (ν25 0)] trivial fun ac wd hS => ?_
   refine hS.callG true 98 #[.agg #[pt b'14 0, vi 96, vi nn]] (tags_Open b'14 96 nn _  ) ?_
   rintro _ wd ⟨rfl, hF⟩
   refine ⟨.agg #[pt b'14 0, vi 96, vi nn], rfl, ?_⟩
   replace hS := (hS.to (hS.mem.keep0 hF)).put (d := 82) (v := .agg #[pt b'14 0, vi 96, vi nn]) (by decide)
   clear hF
   refine hS.opsC 1 [1] [80, 82] fun _ => seg [(83, .slice aoq lq.length cq)] [(0, none), (1, none)] [.t true] trivial fun ac wd hS => ?_
   refine hS.callG true 97 #[.agg #[pt b'14 0, vi 96, vi nn], .slice aoq lq.length cq] (l06_told b'14 F15 mx 96 nn aoq cq gq oq lq _ (hS.mem.res 0) (hS.mem.get 1 gq (.fn oq (oq + lq.length * 2) (tgV (gtD lq) oq))) hvq (by first | exact (i1.lay hac3.1).2 | exact i1) (by first | omega | (have hql := i1.len; omega))) ?_
   rintro _ wd ⟨rfl, hF⟩
   refine ⟨vb true, rfl, ?_⟩
   replace hS := (hS.to (hS.mem.keep0 hF)).put (d := 84) (v := vb true) (by decide)
   clear hF
   refine hS.opsC 2 [70, 0] [] fun _ => seg [(4, vb true)] [(0, none)] [.t true] trivial fun ac wd hS => ?_
   refine list_nil_seq ?_
   refine wp_ret ?_
   refine St.retC 0 hS (vb true) [] trivial fun hw => ?_
   refine ⟨retd rfl, hw.fr0⟩

end Go.Proofs.YtindbpffbjhfaaaDoor.K
