import Derived.Test.YtojjkjedcafpeaaGreatDoorM6
import Derived.Test.YtojjkjedcafpeaaGreatDoorVb
import Derived.Test.YtojjkjedcafpeaaGreatDoorNe
import Derived.Test.YtojjkjedcafpeaaGreatDoorYf
import Derived.Test.YtojjkjedcafpeaaGreatDoorOb
import Derived.Test.YtojjkjedcafpeaaGreatDoorProg
import Derived.Test.YtojjkjedcafpeaaGreatDoorNf
/-
  Walks, printed by w2.py.
-/
namespace Go.Proofs.YtojjkjedcafpeaaGreatDoor.K
set_option linter.unusedVariables false
set_option linter.unusedSimpArgs false

set_option maxRecDepth 100000 in
set_option maxHeartbeats 1000000 in
theorem bu_at (bb : Nat) (b : Nat) (N : Nat) (i : Int) (w : World) (hh0 : HE.holds w bb (.fn 0 12 (roF [pt b 0, vi 1, vi ((N : Nat) : Int), pt b 0, vi 0, vi 256, pt b 0, vi 0, vi 88, pt b 0, vi 257, vi ((N : Nat) : Int)]))) (hi : 0 ≤ i ∧ i ≤ 1000) :
    Calls Tryz.prog 67 #[pt bb 0, vi i] w fun e w' => e = .returned (vi ((1 + i) * 4096)) ∧ Fr w w' no no := by
 refine enter (args := [pt bb 0, vi i]) (D := no) (A := []) Tryz.func67 rfl 12 rfl [(bb, .fn 0 12 (roF [pt b 0, vi 1, vi ((N : Nat) : Int), pt b 0, vi 0, vi 256, pt b 0, vi 0, vi 88, pt b 0, vi 257, vi ((N : Nat) : Int)]))] (WS.startL ⟨⟨rfl, hh0⟩, trivial⟩) fun ac hS => ?_
 refine hS.regS [0] [0, 1] fun _ => seg [] [(0, none)] [] trivial fun ac wd hS => ?_
 refine hS.regS [0, 0, 0, 0, 0, 20, 20, 0] [] fun _ => seg [(4, vi ((1 + i) * 4096))] [] [.p (fit .i64 ((1 + i) * 4096)), .p (fit .i64 (1 + i)), .e bb, .p (0 ≤ 1 ∧ 1 < 12)] ⟨fit_i64 (by omega), fit_i64 (by omega), (by decide), trivial⟩ fun ac wd hS => ?_
 refine wp_ret ?_
 refine St.retC 0 hS (vi ((1 + i) * 4096)) [] trivial fun hw => ?_
 refine ⟨retd rfl, hw.fr0⟩

set_option maxRecDepth 100000 in
set_option maxHeartbeats 1000000 in
theorem bu_release (b : Nat) (F : Nat → Prop) (m : AM) (bb : Nat) (N : Nat) (i : Int) (k : Int) (g : Nat) (r : Int) (q : List Tg) (Q : Nat → List Int) (w : World) (hr : (arR b F m).R w) (hh0 : HE.holds w bb (.fn 0 12 (roF [pt b 0, vi 1, vi ((N : Nat) : Int), pt b 0, vi 0, vi 256, pt b 0, vi 0, vi 88, pt b 0, vi 257, vi ((N : Nat) : Int)]))) (hf0 : ¬ F bb) (hB : Bdy m N g r q Q) (hi : 0 ≤ i) (hk : 0 ≤ k) (hR0 : RelI q g (Int.toNat i) (Int.toNat k) q (Int.toNat i) (Int.toNat k)) :
    Calls Tryz.prog 70 #[pt bb 0, vi i, vi k] w fun e w' => ∃ (mo : AM) (q2 : List Tg) (Q2 : Nat → List Int) (F' : Nat → Prop), e = .returned (.tuple #[]) ∧ Bdy mo N g r q2 Q2 ∧ RelE q (Int.toNat i) (Int.toNat k) q2 ∧ KeepT m mo q ∧ (arR b F' mo).R w' ∧ Fr w w' F F' := by
 refine enter (args := [pt bb 0, vi i, vi k]) (D := F) (A := [arR b F m]) Tryz.func70 rfl 70 rfl [(bb, .fn 0 12 (roF [pt b 0, vi 1, vi ((N : Nat) : Int), pt b 0, vi 0, vi 256, pt b 0, vi 0, vi 88, pt b 0, vi 257, vi ((N : Nat) : Int)]))] (WS.startA (r := arR b F m) hr ⟨⟨rfl, hh0⟩, trivial⟩ ⟨hf0, trivial⟩) fun ac hS => ?_
 refine wp_seq ?_
 refine wp_block ?_
 refine St.loopC (σ := Int × Int × (Nat → Prop) × AM × List Tg × (Nat → List Int)) (fun (x : Int × Int × (Nat → Prop) × AM × List Tg × (Nat → List Int)) => match x with | (x1, x2, Fx, mx, qx, Qx) => ⟨[(0, [], pt bb 0), (1, [], vi x1), (2, [], vi x2)], [(bb, .fn 0 12 (roF [pt b 0, vi 1, vi ((N : Nat) : Int), pt b 0, vi 0, vi 256, pt b 0, vi 0, vi 88, pt b 0, vi 257, vi ((N : Nat) : Int)]))], [arR b Fx mx], (0 ≤ x1 ∧ 0 ≤ x2 ∧ x2 ≤ 10) ∧ (Bdy mx N g r qx Qx) ∧ (RelI q g (Int.toNat i) (Int.toNat k) qx (Int.toNat x1) (Int.toNat x2)) ∧ (KeepT m mx q) ∧ True, 10 - Int.toNat x2⟩) (i, k, F, m, q, Q) ⟨(by exact ⟨hi, hk, by have := hR0.k10; omega⟩), (by exact hB), (by exact hR0), (by exact KeepT.refl _ _), trivial⟩ hS ?_
 clear hS
 rintro ⟨x1, x2, Fx, mx, qx, Qx⟩ ⟨i0, i1, i2, i3, -⟩ ac wd hS
 replace i0 : 0 ≤ x1 ∧ 0 ≤ x2 ∧ x2 ≤ 10 := i0
 replace i1 : Bdy mx N g r qx Qx := i1
 replace i2 : RelI q g (Int.toNat i) (Int.toNat k) qx (Int.toNat x1) (Int.toNat x2) := i2
 replace i3 : KeepT m mx q := i3
 have hnb := i1.bm.nb
 have hcn := i1.bm.cn
 have hft := i2.lt
 refine wp_seq ?_
 refine hS.regS [0, 0] [0, 1, 2] fun _ => seg [(10, vb (decide ((x2 : Int) < 10)))] [(0, none)] [] trivial fun ac wd hS => ?_
 refine hS.condC (decide ((x2 : Int) < 10)) (fun hb1o hb1 => ?_) (fun hb1o hb1 => ?_)
 ·
  refine wp_skip ?_
  refine pop_then ?_
  refine wp_seq ?_
  refine wp_block ?_
  refine hS.regS [0, 0, 20, fx 0 (vi (buI x1 x2)), 0] [0, 1, 2] fun _ => seg [(6, vi (buI x1 x2))] [(0, none)] [.p ((vi (ixor .i64 x1 (1 * (2 ^ Int.toNat x2))) : Value) = vi (buI x1 x2)), .p ((0 : Int) ≤ x2 ∧ IntKind.i64.wrap (1 * 2 ^ (min (Int.toNat x2) 64)) = (1 * (2 ^ Int.toNat x2)))] ⟨(vint (xorI (by omega) (by omega) i2.al)), shl2_i64 (by omega) (by omega) (by exact pgsN_sh (by omega)), trivial⟩ fun ac wd hS => ?_
  refine wp_seq ?_
  refine wp_region_seq ?_
  refine hS.opsC 5 [0, 0, 0, 0, 0] [0, 1, 2, 6] fun _ => seg [(21, .agg #[pt b 0, vi 257, vi ((N : Nat) : Int)]), (22, vi (buI x1 x2))] [(0, none)] [.e bb, .p (0 ≤ 11 ∧ 11 < 12), .e bb, .p (0 ≤ 10 ∧ 10 < 12), .e bb, .p (0 ≤ 9 ∧ 9 < 12)] ⟨(by decide), (by decide), (by decide), trivial⟩ fun ac wd hS => ?_
  refine hS.call0 66 #[.agg #[pt b 0, vi 257, vi ((N : Nat) : Int)], vi (buI x1 x2)] 23 (tags_Get_r b Fx mx 257 ((N : Nat) : Int) (buI x1 x2) qx _ (hS.mem.res 0) (by exact i1.bm.tg)) fun ac wd hS => ?_
  refine hS.opsC 6 [0, 0, 0, 0, 100, 0] [0, 1, 2, 6] fun ν4 => seg [(7, pt (ν4 0) 0), (8, vi (rgE qx (buI x1 x2)))] [(0, none), (1, some ((ν4 0), .cells [v8 (((rgV qx (buI x1 x2))).1), v8 (((rgV qx (buI x1 x2))).2)] 107))] [.e (ν4 0), .e (ν4 0)] trivial fun ac wd hS => ?_
  refine list_nil_seq ?_
  refine wp_region_seq ?_
  refine hS.opsC 3 [0, 0, 0] [0, 1, 2, 6, 7] fun _ => seg [(28, vb (((rgE qx (buI x1 x2)) : Int) != 0))] [(0, none), (1, none)] [] trivial fun ac wd hS => ?_
  rcases Bool.eq_false_or_eq_true (((rgE qx (buI x1 x2)) : Int) != 0) with hg2o | hg2o
  ·
   have hg2 := nrm hg2o
   have hno := bu_no hg2
   replace hS := hS.fix 28 (vb true) (congrArg Value.bool hg2o)
   refine hS.opsC 6 [2, 2, 2, 2, 2, 70] [0, 1, 2, 6] fun _ => seg [(34, vb true)] [(0, none)] [.t true, .t true, .t true, .t true, .t true, .t true] trivial fun ac wd hS => ?_
   refine list_nil_seq ?_
   refine hS.condT ?_
   refine wp_exit ?_
   refine pop_then_exit ?_
   refine pop_block_miss rfl ?_
   refine pop_then_exit ?_
   refine pop_then_exit ?_
   refine pop_block_hit ?_
   refine pop_then ?_
   refine wp_region_seq ?_
   refine hS.opsC 6 [0, 0, 0, 0, 0, 0] [0, 1, 2] fun _ => seg [(57, .agg #[pt b 0, vi 257, vi ((N : Nat) : Int)]), (58, vi x1), (59, vi x2)] [(0, none)] [.e bb, .p (0 ≤ 11 ∧ 11 < 12), .e bb, .p (0 ≤ 10 ∧ 10 < 12), .e bb, .p (0 ≤ 9 ∧ 9 < 12)] ⟨(by decide), (by decide), (by decide), trivial⟩ fun ac wd hS => ?_
   refine hS.callC 69 #[.agg #[pt b 0, vi 257, vi ((N : Nat) : Int)], vi x1, vi x2, v8 2] (tags_Lay_r b Fx mx 257 ((N : Nat) : Int) x1 x2 2 qx _ (hS.mem.res 0) (by first | exact i1.bm.tg | exact (i1.bm.remI (by omega) _).tg) (by first | assumption | omega | (simp_all; done) | (simp_all; omega))) ?_
   rintro _ wd ⟨F3, rfl, hA, hF⟩
   refine ⟨vi (rlE qx x1 x2 2), rfl, ?_⟩
   replace hS := (hS.to (hS.mem.stepA 0 rfl hA hF)).put (d := 60) (v := vi (rlE qx x1 x2 2)) (by decide)
   clear hF
   refine list_nil_seq ?_
   refine St.ordBegin [(0, 1), (1, 1), (2, 1), (3, 1), (4, 1), (5, 1), (6, 1), (7, 0), (8, 0)] [(bb, .fn 0 12 (roF [pt b 0, vi 1, vi ((N : Nat) : Int), pt b 0, vi 0, vi 256, pt b 0, vi 0, vi 88, pt b 0, vi 257, vi ((N : Nat) : Int)]))] [0] hS fun wd hS => ?_
   have hap := hS.mem.pairs (Hf := [(bb, .fn 0 12 (roF [pt b 0, vi 1, vi ((N : Nat) : Int), pt b 0, vi 0, vi 256, pt b 0, vi 0, vi 88, pt b 0, vi 257, vi ((N : Nat) : Int)]))]) (l := [0])
   refine St.ordF [0, 0, 0, 0, 0, 0, 0] [0, 1, 2, 3, 4, 5, 6] [] (rest := [(7, 0), (8, 0)]) hS hap <| segF [(64, .agg #[pt b 0, vi 0, vi 88]), (65, vi x2), (66, pt bb 0), (67, vi x1)] [.e bb, .p (0 ≤ 8 ∧ 8 < 12), .e bb, .p (0 ≤ 7 ∧ 7 < 12), .e bb, .p (0 ≤ 6 ∧ 6 < 12)] ⟨(by decide), (by decide), (by decide), trivial⟩ fun ac hS => ?_
   refine hS.ordC 7 67 #[pt bb 0, vi x1] (bu_at bb b N x1 _ (hS.mem.get 0 bb (.fn 0 12 (roF [pt b 0, vi 1, vi ((N : Nat) : Int), pt b 0, vi 0, vi 256, pt b 0, vi 0, vi 88, pt b 0, vi 257, vi ((N : Nat) : Int)]))) (by first | assumption | omega | (simp_all; done) | (simp_all; omega))) ?_
   rintro _ wd ⟨rfl, hF⟩
   refine ⟨vi ((1 + x1) * 4096), rfl, ?_⟩
   replace hS := (hS.to (hS.mem.keep0 hF)).put (d := 68) (v := vi ((1 + x1) * 4096)) (by decide)
   clear hF
   refine hS.ordV (l := [0]) ?_
   refine hS.ordC 8 73 #[.agg #[pt b 0, vi 0, vi 88], vi x2, vi ((1 + x1) * 4096)] (ls_Add b F3 (tgLM mx 257 ((N : Nat) : Int) x1 x2 2) 0 88 x2 ((1 + x1) * 4096) (Qx (Int.toNat x2)) _ (hS.mem.res 0) (by first | assumption | omega | (simp_all; done) | (simp_all; omega)) (by first | assumption | omega | (simp_all; done) | (simp_all; omega)) (by exact (i1.bm.layI (by decide)).chI (by omega)) (by exact i1.bm.psI (by omega)) (by first | assumption | omega | (simp_all; done) | (simp_all; omega))) ?_
   rintro _ wd ⟨F4, rfl, hA, hF⟩
   refine ⟨vi (lsaE (tgLM mx 257 ((N : Nat) : Int) x1 x2 2) (Qx (Int.toNat x2)) ((1 + x1) * 4096)), rfl, ?_⟩
   replace hS := (hS.to (hS.mem.stepA 0 rfl hA hF)).put (d := 69) (v := vi (lsaE (tgLM mx 257 ((N : Nat) : Int) x1 x2 2) (Qx (Int.toNat x2)) ((1 + x1) * 4096))) (by decide)
   clear hF
   refine hS.ordV (l := [0]) ?_
   refine ord_nil ?_
   have hP := i1.putI (a := (1 + x1) * 4096) i0.1 i0.2.1 i2 (by first | exact hno | (left; omega)) (bpI i0.1)
   refine St.fallC 0 hS (.tuple #[]) [] trivial fun hw => ?_
   refine ⟨(lsaM (tgLM mx 257 ((N : Nat) : Int) x1 x2 2) 0 88 x2 (Qx (Int.toNat x2)) ((1 + x1) * 4096)), (rlQ qx x1 x2 2), (updQ Qx (Int.toNat x2) (addL (Qx (Int.toNat x2)) ((1 + x1) * 4096))), F4, retd rfl, ?_, ?_, ?_, (hw.res 0), hw.frA⟩
   all_goals (first | exact hP.1 | exact hP.2.1 | exact i3.trans hP.2.2 (fun j t => (i2.tk j t).2) | rfl)
  ·
   have hg2 := nrm hg2o
   have hg0 := hg2
   replace hS := hS.fix 28 (vb false) (congrArg Value.bool hg2o)
   refine hS.opsC 4 [101, 1, 21, 1] [0, 1, 2, 6, 28] fun _ => seg [(29, .agg #[v8 (((rgV qx (buI x1 x2))).1), v8 (((rgV qx (buI x1 x2))).2)]), (32, .agg #[v8 2, v8 x2])] [(0, none)] [.t false, .t false, .p (fit .u8 x2), .t false, .t false, .e (ν4 0), .e (ν4 0)] ⟨fit_u8 (by omega), trivial⟩ fun ac wd hS => ?_
   refine Runs1.listG hS 28 false ?_ (by decide)
   refine St.binS hS .neq (.tmp 29) (.tmp 32) 107 107 rfl rfl (by decide) (xs := #[v8 (((rgV qx (buI x1 x2))).1), v8 (((rgV qx (buI x1 x2))).2)]) (ys := #[v8 2, v8 x2]) (r := vb (!(eqAll [((((rgV qx (buI x1 x2))).1 : Int), (2 : Int)), ((((rgV qx (buI x1 x2))).2 : Int), (x2 : Int))]))) (fun w => run_neS (l := [((((rgV qx (buI x1 x2))).1 : Int), (2 : Int)), ((((rgV qx (buI x1 x2))).2 : Int), (x2 : Int))]) w (by as_aux_lemma => kernel_rfl) (by as_aux_lemma => kernel_rfl) (by as_aux_lemma => kernel_rfl)) (by as_aux_lemma => kernel_rfl) fun ac hS => ?_
   refine hS.opsC 1 [60] [0, 1, 2, 6] fun _ => seg [(34, vb (!(eqAll [((((rgV qx (buI x1 x2))).1 : Int), (2 : Int)), ((((rgV qx (buI x1 x2))).2 : Int), (x2 : Int))])))] [(0, none)] [.t false] trivial fun ac wd hS => ?_
   refine list_nil_seq ?_
   refine hS.condC (!(eqAll [((((rgV qx (buI x1 x2))).1 : Int), (2 : Int)), ((((rgV qx (buI x1 x2))).2 : Int), (x2 : Int))])) (fun hb5o hb5 => ?_) (fun hb5o hb5 => ?_)
   ·
    have hno := bu_neE hg0 hb5o
    refine wp_exit ?_
    refine pop_then_exit ?_
    refine pop_block_miss rfl ?_
    refine pop_then_exit ?_
    refine pop_then_exit ?_
    refine pop_block_hit ?_
    refine pop_then ?_
    refine wp_region_seq ?_
    refine hS.opsC 6 [0, 0, 0, 0, 0, 0] [0, 1, 2] fun _ => seg [(57, .agg #[pt b 0, vi 257, vi ((N : Nat) : Int)]), (58, vi x1), (59, vi x2)] [(0, none)] [.e bb, .p (0 ≤ 11 ∧ 11 < 12), .e bb, .p (0 ≤ 10 ∧ 10 < 12), .e bb, .p (0 ≤ 9 ∧ 9 < 12)] ⟨(by decide), (by decide), (by decide), trivial⟩ fun ac wd hS => ?_
    refine hS.callC 69 #[.agg #[pt b 0, vi 257, vi ((N : Nat) : Int)], vi x1, vi x2, v8 2] (tags_Lay_r b Fx mx 257 ((N : Nat) : Int) x1 x2 2 qx _ (hS.mem.res 0) (by first | exact i1.bm.tg | exact (i1.bm.remI (by omega) _).tg) (by first | assumption | omega | (simp_all; done) | (simp_all; omega))) ?_
    rintro _ wd ⟨F6, rfl, hA, hF⟩
    refine ⟨vi (rlE qx x1 x2 2), rfl, ?_⟩
    replace hS := (hS.to (hS.mem.stepA 0 rfl hA hF)).put (d := 60) (v := vi (rlE qx x1 x2 2)) (by decide)
    clear hF
    refine list_nil_seq ?_
    refine St.ordBegin [(0, 1), (1, 1), (2, 1), (3, 1), (4, 1), (5, 1), (6, 1), (7, 0), (8, 0)] [(bb, .fn 0 12 (roF [pt b 0, vi 1, vi ((N : Nat) : Int), pt b 0, vi 0, vi 256, pt b 0, vi 0, vi 88, pt b 0, vi 257, vi ((N : Nat) : Int)]))] [0] hS fun wd hS => ?_
    have hap := hS.mem.pairs (Hf := [(bb, .fn 0 12 (roF [pt b 0, vi 1, vi ((N : Nat) : Int), pt b 0, vi 0, vi 256, pt b 0, vi 0, vi 88, pt b 0, vi 257, vi ((N : Nat) : Int)]))]) (l := [0])
    refine St.ordF [0, 0, 0, 0, 0, 0, 0] [0, 1, 2, 3, 4, 5, 6] [] (rest := [(7, 0), (8, 0)]) hS hap <| segF [(64, .agg #[pt b 0, vi 0, vi 88]), (65, vi x2), (66, pt bb 0), (67, vi x1)] [.e bb, .p (0 ≤ 8 ∧ 8 < 12), .e bb, .p (0 ≤ 7 ∧ 7 < 12), .e bb, .p (0 ≤ 6 ∧ 6 < 12)] ⟨(by decide), (by decide), (by decide), trivial⟩ fun ac hS => ?_
    refine hS.ordC 7 67 #[pt bb 0, vi x1] (bu_at bb b N x1 _ (hS.mem.get 0 bb (.fn 0 12 (roF [pt b 0, vi 1, vi ((N : Nat) : Int), pt b 0, vi 0, vi 256, pt b 0, vi 0, vi 88, pt b 0, vi 257, vi ((N : Nat) : Int)]))) (by first | assumption | omega | (simp_all; done) | (simp_all; omega))) ?_
    rintro _ wd ⟨rfl, hF⟩
    refine ⟨vi ((1 + x1) * 4096), rfl, ?_⟩
    replace hS := (hS.to (hS.mem.keep0 hF)).put (d := 68) (v := vi ((1 + x1) * 4096)) (by decide)
    clear hF
    refine hS.ordV (l := [0]) ?_
    refine hS.ordC 8 73 #[.agg #[pt b 0, vi 0, vi 88], vi x2, vi ((1 + x1) * 4096)] (ls_Add b F6 (tgLM mx 257 ((N : Nat) : Int) x1 x2 2) 0 88 x2 ((1 + x1) * 4096) (Qx (Int.toNat x2)) _ (hS.mem.res 0) (by first | assumption | omega | (simp_all; done) | (simp_all; omega)) (by first | assumption | omega | (simp_all; done) | (simp_all; omega)) (by exact (i1.bm.layI (by decide)).chI (by omega)) (by exact i1.bm.psI (by omega)) (by first | assumption | omega | (simp_all; done) | (simp_all; omega))) ?_
    rintro _ wd ⟨F7, rfl, hA, hF⟩
    refine ⟨vi (lsaE (tgLM mx 257 ((N : Nat) : Int) x1 x2 2) (Qx (Int.toNat x2)) ((1 + x1) * 4096)), rfl, ?_⟩
    replace hS := (hS.to (hS.mem.stepA 0 rfl hA hF)).put (d := 69) (v := vi (lsaE (tgLM mx 257 ((N : Nat) : Int) x1 x2 2) (Qx (Int.toNat x2)) ((1 + x1) * 4096))) (by decide)
    clear hF
    refine hS.ordV (l := [0]) ?_
    refine ord_nil ?_
    have hP := i1.putI (a := (1 + x1) * 4096) i0.1 i0.2.1 i2 (by first | exact hno | (left; omega)) (bpI i0.1)
    refine St.fallC 0 hS (.tuple #[]) [] trivial fun hw => ?_
    refine ⟨(lsaM (tgLM mx 257 ((N : Nat) : Int) x1 x2 2) 0 88 x2 (Qx (Int.toNat x2)) ((1 + x1) * 4096)), (rlQ qx x1 x2 2), (updQ Qx (Int.toNat x2) (addL (Qx (Int.toNat x2)) ((1 + x1) * 4096))), F7, retd rfl, ?_, ?_, ?_, (hw.res 0), hw.frA⟩
    all_goals (first | exact hP.1 | exact hP.2.1 | exact i3.trans hP.2.2 (fun j t => (i2.tk j t).2) | rfl)
   ·
    have hgo := bu_eqE hg0 hb5o
    have hbr := bu_rng (x := x1) (k := x2) (by omega) (by omega)
    have hD := i1.dropI (a := (1 + (buI x1 x2)) * 4096) (by omega) i0.2.1 hgo (bpI hbr.1)
    refine wp_skip ?_
    refine pop_then ?_
    refine St.ordBeginS [(0, 1), (1, 1), (2, 1), (3, 1), (4, 1), (5, 1), (6, 1), (7, 0), (8, 0)] [(bb, .fn 0 12 (roF [pt b 0, vi 1, vi ((N : Nat) : Int), pt b 0, vi 0, vi 256, pt b 0, vi 0, vi 88, pt b 0, vi 257, vi ((N : Nat) : Int)]))] [0] hS fun wd hS => ?_
    have hap := hS.mem.pairs (Hf := [(bb, .fn 0 12 (roF [pt b 0, vi 1, vi ((N : Nat) : Int), pt b 0, vi 0, vi 256, pt b 0, vi 0, vi 88, pt b 0, vi 257, vi ((N : Nat) : Int)]))]) (l := [0])
    refine St.ordF [0, 0, 0, 0, 0, 0, 0] [0, 1, 2, 3, 4, 5, 6] [0, 1, 2, 6] (rest := [(7, 0), (8, 0)]) hS hap <| segF [(38, .agg #[pt b 0, vi 0, vi 88]), (39, vi x2), (40, pt bb 0), (41, vi (buI x1 x2))] [.e bb, .p (0 ≤ 8 ∧ 8 < 12), .e bb, .p (0 ≤ 7 ∧ 7 < 12), .e bb, .p (0 ≤ 6 ∧ 6 < 12)] ⟨(by decide), (by decide), (by decide), trivial⟩ fun ac hS => ?_
    refine hS.ordC 7 67 #[pt bb 0, vi (buI x1 x2)] (bu_at bb b N (buI x1 x2) _ (hS.mem.get 0 bb (.fn 0 12 (roF [pt b 0, vi 1, vi ((N : Nat) : Int), pt b 0, vi 0, vi 256, pt b 0, vi 0, vi 88, pt b 0, vi 257, vi ((N : Nat) : Int)]))) (by first | assumption | omega | (simp_all; done) | (simp_all; omega))) ?_
    rintro _ wd ⟨rfl, hF⟩
    refine ⟨vi ((1 + (buI x1 x2)) * 4096), rfl, ?_⟩
    replace hS := (hS.to (hS.mem.keep0 hF)).put (d := 42) (v := vi ((1 + (buI x1 x2)) * 4096)) (by decide)
    clear hF
    refine hS.ordV (l := [0]) ?_
    refine hS.ordC 8 72 #[.agg #[pt b 0, vi 0, vi 88], vi x2, vi ((1 + (buI x1 x2)) * 4096)] (ls_Remove b Fx mx 0 88 x2 ((1 + (buI x1 x2)) * 4096) (Qx (Int.toNat x2)) _ (hS.mem.res 0) (by first | assumption | omega | (simp_all; done) | (simp_all; omega)) (by first | assumption | omega | (simp_all; done) | (simp_all; omega)) (by exact i1.bm.chI (by omega)) (by exact i1.bm.psI (by omega))) ?_
    rintro _ wd ⟨F8, rfl, hA, hF⟩
    refine ⟨vi (lsrE (Qx (Int.toNat x2)) ((1 + (buI x1 x2)) * 4096)), rfl, ?_⟩
    replace hS := (hS.to (hS.mem.stepA 0 rfl hA hF)).put (d := 43) (v := vi (lsrE (Qx (Int.toNat x2)) ((1 + (buI x1 x2)) * 4096))) (by decide)
    clear hF
    refine hS.ordV (l := [0]) ?_
    refine ord_nil ?_
    refine wp_region_seq ?_
    refine hS.opsC 6 [0, 0, 0, 0, 0, 0] [0, 1, 2, 6] fun _ => seg [(47, .agg #[pt b 0, vi 257, vi ((N : Nat) : Int)]), (48, vi (buI x1 x2)), (49, vi x2)] [(0, none)] [.e bb, .p (0 ≤ 11 ∧ 11 < 12), .e bb, .p (0 ≤ 10 ∧ 10 < 12), .e bb, .p (0 ≤ 9 ∧ 9 < 12)] ⟨(by decide), (by decide), (by decide), trivial⟩ fun ac wd hS => ?_
    refine hS.callC 69 #[.agg #[pt b 0, vi 257, vi ((N : Nat) : Int)], vi (buI x1 x2), vi x2, v8 0] (tags_Lay_r b F8 (lsrM mx 0 88 x2 (Qx (Int.toNat x2)) ((1 + (buI x1 x2)) * 4096)) 257 ((N : Nat) : Int) (buI x1 x2) x2 0 qx _ (hS.mem.res 0) (by first | exact i1.bm.tg | exact (i1.bm.remI (by omega) _).tg) (by first | assumption | omega | (simp_all; done) | (simp_all; omega))) ?_
    rintro _ wd ⟨F9, rfl, hA, hF⟩
    refine ⟨vi (rlE qx (buI x1 x2) x2 0), rfl, ?_⟩
    replace hS := (hS.to (hS.mem.stepA 0 rfl hA hF)).put (d := 50) (v := vi (rlE qx (buI x1 x2) x2 0)) (by decide)
    clear hF
    refine list_nil_seq ?_
    refine hS.regC [0, 0, 0, 0] [0, 2] fun _ => seg [(1, vi (imin x1 (buI x1 x2)))] [(0, none)] [] trivial fun ac wd hS => ?_
    refine pop_block ?_
    refine pop_then ?_
    refine hS.regC [0, 20, 0] [0, 1] fun _ => seg [(2, vi (x2 + 1))] [(0, none)] [.p (fit .i64 (x2 + 1))] ⟨fit_i64 (by omega), trivial⟩ fun ac wd hS => ?_
    exact pop_then (hS.next ((imin x1 (buI x1 x2)), (x2 + 1), F9, (tgLM (lsrM mx 0 88 x2 (Qx (Int.toNat x2)) ((1 + (buI x1 x2)) * 4096)) 257 ((N : Nat) : Int) (buI x1 x2) x2 0), (rlQ qx (buI x1 x2) x2 0), (updQ Qx (Int.toNat x2) (delL (Qx (Int.toNat x2)) ((1 + buI x1 x2) * 4096)))) ⟨(by exact ⟨imin_nn i0.1 hbr.1, by omega, by omega⟩), (by exact hD.1), (by exact i2.stepI i1.tl i0.1 (by omega) hgo hD.2.1), (by exact i3.trans hD.2.2.1 (fun j t => (i2.tk j t).2)), trivial⟩ (by dsimp only; omega))
 ·
  refine wp_exit ?_
  refine pop_then_exit ?_
  refine pop_then_exit ?_
  refine pop_block_hit ?_
  refine pop_then ?_
  refine wp_region_seq ?_
  refine hS.opsC 6 [0, 0, 0, 0, 0, 0] [0, 1, 2] fun _ => seg [(57, .agg #[pt b 0, vi 257, vi ((N : Nat) : Int)]), (58, vi x1), (59, vi x2)] [(0, none)] [.e bb, .p (0 ≤ 11 ∧ 11 < 12), .e bb, .p (0 ≤ 10 ∧ 10 < 12), .e bb, .p (0 ≤ 9 ∧ 9 < 12)] ⟨(by decide), (by decide), (by decide), trivial⟩ fun ac wd hS => ?_
  refine hS.callC 69 #[.agg #[pt b 0, vi 257, vi ((N : Nat) : Int)], vi x1, vi x2, v8 2] (tags_Lay_r b Fx mx 257 ((N : Nat) : Int) x1 x2 2 qx _ (hS.mem.res 0) (by first | exact i1.bm.tg | exact (i1.bm.remI (by omega) _).tg) (by first | assumption | omega | (simp_all; done) | (simp_all; omega))) ?_
  rintro _ wd ⟨F10, rfl, hA, hF⟩
  refine ⟨vi (rlE qx x1 x2 2), rfl, ?_⟩
  replace hS := (hS.to (hS.mem.stepA 0 rfl hA hF)).put (d := 60) (v := vi (rlE qx x1 x2 2)) (by decide)
  clear hF
  refine list_nil_seq ?_
  refine St.ordBegin [(0, 1), (1, 1), (2, 1), (3, 1), (4, 1), (5, 1), (6, 1), (7, 0), (8, 0)] [(bb, .fn 0 12 (roF [pt b 0, vi 1, vi ((N : Nat) : Int), pt b 0, vi 0, vi 256, pt b 0, vi 0, vi 88, pt b 0, vi 257, vi ((N : Nat) : Int)]))] [0] hS fun wd hS => ?_
  have hap := hS.mem.pairs (Hf := [(bb, .fn 0 12 (roF [pt b 0, vi 1, vi ((N : Nat) : Int), pt b 0, vi 0, vi 256, pt b 0, vi 0, vi 88, pt b 0, vi 257, vi ((N : Nat) : Int)]))]) (l := [0])
  refine St.ordF [0, 0, 0, 0, 0, 0, 0] [0, 1, 2, 3, 4, 5, 6] [] (rest := [(7, 0), (8, 0)]) hS hap <| segF [(64, .agg #[pt b 0, vi 0, vi 88]), (65, vi x2), (66, pt bb 0), (67, vi x1)] [.e bb, .p (0 ≤ 8 ∧ 8 < 12), .e bb, .p (0 ≤ 7 ∧ 7 < 12), .e bb, .p (0 ≤ 6 ∧ 6 < 12)] ⟨(by decide), (by decide), (by decide), trivial⟩ fun ac hS => ?_
  refine hS.ordC 7 67 #[pt bb 0, vi x1] (bu_at bb b N x1 _ (hS.mem.get 0 bb (.fn 0 12 (roF [pt b 0, vi 1, vi ((N : Nat) : Int), pt b 0, vi 0, vi 256, pt b 0, vi 0, vi 88, pt b 0, vi 257, vi ((N : Nat) : Int)]))) (by first | assumption | omega | (simp_all; done) | (simp_all; omega))) ?_
  rintro _ wd ⟨rfl, hF⟩
  refine ⟨vi ((1 + x1) * 4096), rfl, ?_⟩
  replace hS := (hS.to (hS.mem.keep0 hF)).put (d := 68) (v := vi ((1 + x1) * 4096)) (by decide)
  clear hF
  refine hS.ordV (l := [0]) ?_
  refine hS.ordC 8 73 #[.agg #[pt b 0, vi 0, vi 88], vi x2, vi ((1 + x1) * 4096)] (ls_Add b F10 (tgLM mx 257 ((N : Nat) : Int) x1 x2 2) 0 88 x2 ((1 + x1) * 4096) (Qx (Int.toNat x2)) _ (hS.mem.res 0) (by first | assumption | omega | (simp_all; done) | (simp_all; omega)) (by first | assumption | omega | (simp_all; done) | (simp_all; omega)) (by exact (i1.bm.layI (by decide)).chI (by omega)) (by exact i1.bm.psI (by omega)) (by first | assumption | omega | (simp_all; done) | (simp_all; omega))) ?_
  rintro _ wd ⟨F11, rfl, hA, hF⟩
  refine ⟨vi (lsaE (tgLM mx 257 ((N : Nat) : Int) x1 x2 2) (Qx (Int.toNat x2)) ((1 + x1) * 4096)), rfl, ?_⟩
  replace hS := (hS.to (hS.mem.stepA 0 rfl hA hF)).put (d := 69) (v := vi (lsaE (tgLM mx 257 ((N : Nat) : Int) x1 x2 2) (Qx (Int.toNat x2)) ((1 + x1) * 4096))) (by decide)
  clear hF
  refine hS.ordV (l := [0]) ?_
  refine ord_nil ?_
  have hP := i1.putI (a := (1 + x1) * 4096) i0.1 i0.2.1 i2 (by first | exact hno | (left; omega)) (bpI i0.1)
  refine St.fallC 0 hS (.tuple #[]) [] trivial fun hw => ?_
  refine ⟨(lsaM (tgLM mx 257 ((N : Nat) : Int) x1 x2 2) 0 88 x2 (Qx (Int.toNat x2)) ((1 + x1) * 4096)), (rlQ qx x1 x2 2), (updQ Qx (Int.toNat x2) (addL (Qx (Int.toNat x2)) ((1 + x1) * 4096))), F11, retd rfl, ?_, ?_, ?_, (hw.res 0), hw.frA⟩
  all_goals (first | exact hP.1 | exact hP.2.1 | exact i3.trans hP.2.2 (fun j t => (i2.tk j t).2) | rfl)

set_option maxRecDepth 100000 in
set_option maxHeartbeats 1000000 in
theorem sz_right1 (n : Int) (w : World) (hn : 1 ≤ n ∧ n ≤ 400) :
    Calls Tryz.prog 144 #[vi n] w fun e w' => e = .returned (vb true) ∧ Fr w w' no no := by
 refine enter (args := [vi n]) (D := no) (A := []) Tryz.func144 rfl 9 rfl [] (WS.startL trivial) fun ac hS => ?_
 refine hS.regS [0] [0] fun _ => seg [] [] [] trivial fun ac wd hS => ?_
 refine hS.regS [0, fx 0 (vb true), 0, 1, fx 1 (vb true), 70, 0] [] fun _ => seg [(2, vb true)] [] [.t true, .t true, .p ((vb (decide ((n : Int) ≤ 4294967296)) : Value) = vb true), .t true, .p ((vb (decide ((0 : Int) ≤ n)) : Value) = vb true)] ⟨(congrArg Value.bool (by exact decide_eq_true (by omega))), (congrArg Value.bool (by exact decide_eq_true (by omega))), trivial⟩ fun ac wd hS => ?_
 refine wp_ret ?_
 refine St.retC 0 hS (vb true) [] trivial fun hw => ?_
 refine ⟨retd rfl, hw.fr0⟩

set_option maxRecDepth 100000 in
set_option maxHeartbeats 1000000 in
theorem sz_Up1 (n : Int) (w : World) (hn : 1 ≤ n ∧ n ≤ 400) :
    Calls Tryz.prog 132 #[vi n, vi 4096] w fun e w' => e = .returned (.tuple #[vi 4096, vb true]) ∧ Fr w w' no no := by
 refine enter (args := [vi n, vi 4096]) (D := no) (A := []) Tryz.func132 rfl 21 rfl [] (WS.startL trivial) fun ac hS => ?_
 refine hS.regS [0, 0] [0, 1] fun _ => seg [] [] [] trivial fun ac wd hS => ?_
 refine wp_seq ?_
 refine wp_region_seq ?_
 refine hS.opsC 1 [0] [0, 1] fun _ => seg [(6, vi n)] [] [] trivial fun ac wd hS => ?_
 refine hS.call0 144 #[vi n] 7 (sz_right1 n _  (by first | assumption | omega | (simp_all; done) | (simp_all; omega))) fun ac wd hS => ?_
 refine hS.opsC 2 [0, 0] [0, 1] fun _ => seg [(9, vb false)] [] [] trivial fun ac wd hS => ?_
 refine hS.opsC 1 [1] [0, 1, 9] fun _ => seg [(10, vi 4096)] [] [.t false] trivial fun ac wd hS => ?_
 refine hS.callG false 145 #[vi 4096] (size_Whole 4096 _  ) ?_
 rintro _ wd ⟨rfl, hF⟩
 refine ⟨vb (z_whole 4096), rfl, ?_⟩
 replace hS := (hS.to (hS.mem.keep0 hF)).put (d := 11) (v := vb (z_whole 4096)) (by decide)
 clear hF
 refine hS.opsC 2 [1, 60] [0, 1] fun _ => seg [(13, vb (!(z_whole 4096)))] [] [.t false, .t false] trivial fun ac wd hS => ?_
 refine list_nil_seq ?_
 refine hS.condK (!(z_whole 4096)) false (by rfl) ?_
 show Code.wp _ _ _ _ _
 refine wp_skip ?_
 refine pop_then ?_
 refine hS.regS [0, 0, 20, 20, 0, 0, fx 0 (vi 4096), 0, 0] [] fun _ => seg [(4, vi 4096), (5, vb true)] [] [.p ((vi (iandNot .i64 ((n + 4096) - 1) 4095) : Value) = vi 4096), .p (fit .i64 ((n + 4096) - 1)), .p (fit .i64 (n + 4096))] ⟨(vint (upI1 hn)), fit_i64 (by omega), fit_i64 (by omega), trivial⟩ fun ac wd hS => ?_
 refine wp_ret ?_
 refine St.retC 0 hS (.tuple #[vi 4096, vb true]) [] trivial fun hw => ?_
 refine ⟨retd rfl, hw.fr0⟩

set_option maxRecDepth 100000 in
set_option maxHeartbeats 1000000 in
theorem sz_Pages1 (n : Int) (w : World) (hn : 1 ≤ n ∧ n ≤ 400) :
    Calls Tryz.prog 101 #[vi n] w fun e w' => e = .returned (.tuple #[vi 1, vb true]) ∧ Fr w w' no no := by
 refine enter (args := [vi n]) (D := no) (A := []) Tryz.func101 rfl 13 rfl [] (WS.startL trivial) fun ac hS => ?_
 refine hS.regS [0, 0] [0] fun _ => seg [] [] [] trivial fun ac wd hS => ?_
 refine wp_region_seq ?_
 refine hS.opsC 1 [0] [0] fun _ => seg [(6, vi n)] [] [] trivial fun ac wd hS => ?_
 refine hS.call0 132 #[vi n, vi 4096] 7 (sz_Up1 n _  (by first | assumption | omega | (simp_all; done) | (simp_all; omega))) fun ac wd hS => ?_
 refine hS.opsC 5 [0, 0, 0, 0, 0] [] fun _ => seg [(0, vi 4096), (4, vb true)] [] [] trivial fun ac wd hS => ?_
 refine list_nil_seq ?_
 refine hS.regS [0, 0, 0, 0, 0] [] fun _ => seg [(2, vi 1), (3, vb true)] [] [] trivial fun ac wd hS => ?_
 refine wp_ret ?_
 refine St.retC 0 hS (.tuple #[vi 1, vb true]) [] trivial fun hw => ?_
 refine ⟨retd rfl, hw.fr0⟩

set_option maxRecDepth 100000 in
set_option maxHeartbeats 1000000 in
theorem bu_own (c : Int) (w : World) (hc : 0 ≤ c ∧ c ≤ 100) :
    Calls Tryz.prog 55 #[vi c] w fun e w' => e = .returned (vi 1) ∧ Fr w w' no no := by
 refine enter (args := [vi c]) (D := no) (A := []) Tryz.func55 rfl 12 rfl [] (WS.startL trivial) fun ac hS => ?_
 refine hS.regS [0] [0] fun _ => seg [] [] [] trivial fun ac wd hS => ?_
 refine wp_region_seq ?_
 refine hS.opsC 2 [0, 20] [] fun _ => seg [(7, vi (256 + c))] [] [.p (fit .i64 (256 + c))] ⟨fit_i64 (by omega), trivial⟩ fun ac wd hS => ?_
 refine hS.call0 101 #[vi (256 + c)] 8 (sz_Pages1 (256 + c) _  (by first | assumption | omega | (simp_all; done) | (simp_all; omega))) fun ac wd hS => ?_
 refine hS.opsC 5 [0, 0, 0, 0, 0] [] fun _ => seg [(3, vi 1)] [] [] trivial fun ac wd hS => ?_
 refine list_nil_seq ?_
 refine hS.regS [0, 0] [] fun _ => seg [(2, vi 1)] [] [] trivial fun ac wd hS => ?_
 refine wp_ret ?_
 refine St.retC 0 hS (vi 1) [] trivial fun hw => ?_
 refine ⟨retd rfl, hw.fr0⟩

set_option maxRecDepth 100000 in
set_option maxHeartbeats 1000000 in
theorem bu_Base (bb : Nat) (b : Nat) (N : Nat) (w : World) (hh0 : HE.holds w bb (.fn 0 12 (roF [pt b 0, vi 1, vi ((N : Nat) : Int), pt b 0, vi 0, vi 256, pt b 0, vi 0, vi 88, pt b 0, vi 257, vi ((N : Nat) : Int)]))) :
    Calls Tryz.prog 16 #[pt bb 0] w fun e w' => e = .returned (vi 1) ∧ Fr w w' no no := by
 refine enter (args := [pt bb 0]) (D := no) (A := []) Tryz.func16 rfl 9 rfl [(bb, .fn 0 12 (roF [pt b 0, vi 1, vi ((N : Nat) : Int), pt b 0, vi 0, vi 256, pt b 0, vi 0, vi 88, pt b 0, vi 257, vi ((N : Nat) : Int)]))] (WS.startL ⟨⟨rfl, hh0⟩, trivial⟩) fun ac hS => ?_
 refine hS.regS [0] [0] fun _ => seg [] [(0, none)] [] trivial fun ac wd hS => ?_
 refine wp_seq ?_
 refine hS.regS [0, 0] [0] fun _ => seg [(4, vb false)] [(0, none)] [] trivial fun ac wd hS => ?_
 refine hS.condF ?_
 refine wp_skip ?_
 refine pop_then ?_
 refine hS.regS [0, 0, 0, 0, 0] [] fun _ => seg [(2, vi 1)] [] [.e bb, .p (0 ≤ 1 ∧ 1 < 12)] ⟨(by decide), trivial⟩ fun ac wd hS => ?_
 refine wp_ret ?_
 refine St.retC 0 hS (vi 1) [] trivial fun hw => ?_
 refine ⟨retd rfl, hw.fr0⟩

set_option maxRecDepth 100000 in
set_option maxHeartbeats 1000000 in
theorem bu_Grown (b : Nat) (F : Nat → Prop) (m : AM) (bb : Nat) (N : Nat) (g : Nat) (r : Int) (q : List Tg) (Q : Nat → List Int) (w : World) (hr : (arR b F m).R w) (hh0 : HE.holds w bb (.fn 0 12 (roF [pt b 0, vi 1, vi ((N : Nat) : Int), pt b 0, vi 0, vi 256, pt b 0, vi 0, vi 88, pt b 0, vi 257, vi ((N : Nat) : Int)]))) (hB : Bdy m N g r q Q) :
    Calls Tryz.prog 24 #[pt bb 0] w fun e w' => e = .returned (vi (g : Int)) ∧ Fr w w' no no := by
 have hnb := hB.bm.nb
 have hcn := hB.bm.cn
 have hgV := hB.bm.grV
 refine enter (args := [pt bb 0]) (D := no) (A := []) Tryz.func24 rfl 17 rfl [(bb, .fn 0 12 (roF [pt b 0, vi 1, vi ((N : Nat) : Int), pt b 0, vi 0, vi 256, pt b 0, vi 0, vi 88, pt b 0, vi 257, vi ((N : Nat) : Int)]))] (WS.startL ⟨⟨rfl, hh0⟩, trivial⟩) fun ac hS => ?_
 refine hS.regS [0] [0] fun _ => seg [] [(0, none)] [] trivial fun ac wd hS => ?_
 refine wp_seq ?_
 refine hS.regS [0, 0] [0] fun _ => seg [(6, vb false)] [(0, none)] [] trivial fun ac wd hS => ?_
 refine hS.condF ?_
 refine wp_skip ?_
 refine pop_then ?_
 refine wp_region_seq ?_
 refine hS.opsC 4 [0, 0, 0, 0] [] fun _ => seg [(11, .agg #[pt b 0, vi 0, vi 256])] [] [.e bb, .p (0 ≤ 5 ∧ 5 < 12), .e bb, .p (0 ≤ 4 ∧ 4 < 12), .e bb, .p (0 ≤ 3 ∧ 3 < 12)] ⟨(by decide), (by decide), (by decide), trivial⟩ fun ac wd hS => ?_
 refine hS.call0 74 #[.agg #[pt b 0, vi 0, vi 256], vi 96, vi 8] 12 (vw_Load b F m 0 256 96 8 _ (Res.keep hr hS.mem.fr) (by first | assumption | omega | (simp_all; done) | (simp_all; omega))) fun ac wd hS => ?_
 refine hS.opsC 5 [0, 0, 0, 0, 0] [] fun _ => seg [(3, vu (vldV m 0 256 96 8))] [] [] trivial fun ac wd hS => ?_
 refine list_nil_seq ?_
 refine hS.regS [0, 20, 0] [] fun _ => seg [(2, vi (vldV m 0 256 96 8))] [] [.p (fit .i64 (vldV m 0 256 96 8))] ⟨fit_i64 (by omega), trivial⟩ fun ac wd hS => ?_
 refine wp_ret ?_
 refine St.retC 0 hS (vi (vldV m 0 256 96 8)) [] trivial fun hw => ?_
 refine ⟨retd (vint ?_), hw.fr0⟩
 all_goals (first | rfl | exact hgV)

set_option maxRecDepth 100000 in
set_option maxHeartbeats 1000000 in
theorem bu_taken (b : Nat) (F : Nat → Prop) (m : AM) (bb : Nat) (N : Nat) (at_ : Int) (g : Nat) (r : Int) (q : List Tg) (Q : Nat → List Int) (w : World) (hr : (arR b F m).R w) (hh0 : HE.holds w bb (.fn 0 12 (roF [pt b 0, vi 1, vi ((N : Nat) : Int), pt b 0, vi 0, vi 256, pt b 0, vi 0, vi 88, pt b 0, vi 257, vi ((N : Nat) : Int)]))) (hB : Bdy m N g r q Q) (hat : -9223372036854775808 ≤ at_ ∧ at_ ≤ 9223372036854775807) :
    Calls Tryz.prog 68 #[pt bb 0, vi at_] w fun e w' => e = .returned (.tuple #[vi (tkI q at_), vi (tkK q at_), vi (tkE q at_)]) ∧ Fr w w' no no := by
 have hdr := tdq_rng hat
 have hob := hB.ordB ((tdq at_ 4096) - 1)
 refine enter (args := [pt bb 0, vi at_]) (D := no) (A := []) Tryz.func68 rfl 48 rfl [(bb, .fn 0 12 (roF [pt b 0, vi 1, vi ((N : Nat) : Int), pt b 0, vi 0, vi 256, pt b 0, vi 0, vi 88, pt b 0, vi 257, vi ((N : Nat) : Int)]))] (WS.startL ⟨⟨rfl, hh0⟩, trivial⟩) fun ac hS => ?_
 refine hS.regS [0, 0, 0] [0, 1] fun _ => seg [] [(0, none)] [] trivial fun ac wd hS => ?_
 refine wp_seq ?_
 refine hS.regS [0, 0] [0, 1] fun _ => seg [(11, vb false)] [(0, none)] [] trivial fun ac wd hS => ?_
 refine hS.condF ?_
 refine wp_skip ?_
 refine pop_then ?_
 refine hS.regS [0, fx 0 (vi (tdq at_ 4096)), 0, 0, 0, 0, 20, 0] [0, 1] fun _ => seg [(7, vi ((tdq at_ 4096) - 1))] [(0, none)] [.p (fit .i64 ((tdq at_ 4096) - 1)), .e bb, .p (0 ≤ 1 ∧ 1 < 12), .p ((vi (IntKind.wrap .i64 (Int.tdiv at_ 4096)) : Value) = vi (tdq at_ 4096))] ⟨fit_i64 (by omega), (by decide), (vint (tdq_eq hat)), trivial⟩ fun ac wd hS => ?_
 refine wp_region_seq ?_
 refine hS.opsC 5 [0, 0, 0, 0, 0] [1, 7] fun _ => seg [(23, .agg #[pt b 0, vi 257, vi ((N : Nat) : Int)]), (24, vi ((tdq at_ 4096) - 1))] [] [.e bb, .p (0 ≤ 11 ∧ 11 < 12), .e bb, .p (0 ≤ 10 ∧ 10 < 12), .e bb, .p (0 ≤ 9 ∧ 9 < 12)] ⟨(by decide), (by decide), (by decide), trivial⟩ fun ac wd hS => ?_
 refine hS.call0 66 #[.agg #[pt b 0, vi 257, vi ((N : Nat) : Int)], vi ((tdq at_ 4096) - 1)] 25 (tags_Get_r b F m 257 ((N : Nat) : Int) ((tdq at_ 4096) - 1) q _ (Res.keep hr hS.mem.fr) (by exact hB.bm.tg)) fun ac wd hS => ?_
 refine hS.opsC 6 [0, 0, 0, 0, 0, 0] [1, 7] fun ν5 => seg [(8, pt (ν5 0) 0), (9, vi (rgE q ((tdq at_ 4096) - 1)))] [(0, some ((ν5 0), .cells [v8 (((rgV q ((tdq at_ 4096) - 1))).1), v8 (((rgV q ((tdq at_ 4096) - 1))).2)] 107))] [.e (ν5 0), .e (ν5 0)] trivial fun ac wd hS => ?_
 refine list_nil_seq ?_
 refine wp_seq ?_
 refine hS.regS [0, 0, 0, 3, 23, 3, 80, 0, 3, 3, 80, 0, 3, 3, 3, 80] [7, 8] fun _ => seg [(43, vb ((((decide ((at_ : Int) < 0)) || (((at_ % 4096) : Int) != 0)) || (((rgE q ((tdq at_ 4096) - 1)) : Int) != 0)) || ((((rgV q ((tdq at_ 4096) - 1))).1 : Int) != 3)))] [(0, none)] [.p ((((((decide ((at_ : Int) < 0)) || (((at_ % 4096) : Int) != 0)) || (((rgE q ((tdq at_ 4096) - 1)) : Int) != 0)) = false) ∧ True) → AllP [((ν5 0) : Nat) = (ν5 0)]), .p ((((decide ((at_ : Int) < 0)) = false) ∧ True) → AllP [(4096 : Int) ≠ 0 ∧ Int.tmod at_ 4096 = at_ % 4096])] ⟨(fun ⟨hc0, _⟩ => by replace hc0 := nrm hc0; exact ⟨rfl, trivial⟩), (fun ⟨hc0, _⟩ => by replace hc0 := nrm hc0; exact ⟨rem2 (by omega) (by omega), trivial⟩), trivial⟩ fun ac wd hS => ?_
 refine hS.condC ((((decide ((at_ : Int) < 0)) || (((at_ % 4096) : Int) != 0)) || (((rgE q ((tdq at_ 4096) - 1)) : Int) != 0)) || ((((rgV q ((tdq at_ 4096) - 1))).1 : Int) != 3)) (fun hb1o hb1 => ?_) (fun hb1o hb1 => ?_)
 ·
  have hT := tk_1 hb1o
  refine hS.regS [0, 0, 0] [] fun _ => seg [(4, vi 0), (5, vi 0), (6, vi 8)] [] [] trivial fun ac wd hS => ?_
  refine wp_ret ?_
  refine pop_then_ret ?_
  refine St.retC 0 hS (.tuple #[vi 0, vi 0, vi 8]) [] trivial fun hw => ?_
  refine ⟨retd (tuple3 (vint ?_) (vint ?_) (vint ?_)), hw.fr0⟩
  all_goals (first | exact hT.1 | exact hT.2.1 | exact hT.2.2 | exact hT.2.2.1)
 ·
  have hT := tk_2 hb1o
  refine wp_skip ?_
  refine pop_then ?_
  refine hS.drawS [0, 0, 0, 20, 0, 0, 0] [] <| seg [(4, vi ((tdq at_ 4096) - 1)), (5, vi (((rgV q ((tdq at_ 4096) - 1))).2)), (6, vi 0)] [] [.p (fit .i64 (((rgV q ((tdq at_ 4096) - 1))).2)), .e (ν5 0)] ⟨fit_i64 (by omega), trivial⟩ fun ac wd hS => ?_
  refine wp_ret ?_
  refine St.retC 0 hS (.tuple #[vi ((tdq at_ 4096) - 1), vi (((rgV q ((tdq at_ 4096) - 1))).2), vi 0]) [] trivial fun hw => ?_
  refine ⟨retd (tuple3 (vint ?_) (vint ?_) (vint ?_)), hw.fr0⟩
  all_goals (first | exact hT.1 | exact hT.2.1 | exact hT.2.2 | exact hT.2.2.1)

set_option maxRecDepth 100000 in
set_option maxHeartbeats 1000000 in
theorem bu_Order (b : Nat) (F : Nat → Prop) (m : AM) (bb : Nat) (N : Nat) (at_ : Int) (g : Nat) (r : Int) (q : List Tg) (Q : Nat → List Int) (w : World) (hr : (arR b F m).R w) (hh0 : HE.holds w bb (.fn 0 12 (roF [pt b 0, vi 1, vi ((N : Nat) : Int), pt b 0, vi 0, vi 256, pt b 0, vi 0, vi 88, pt b 0, vi 257, vi ((N : Nat) : Int)]))) (hB : Bdy m N g r q Q) (hat : -9223372036854775808 ≤ at_ ∧ at_ ≤ 9223372036854775807) :
    Calls Tryz.prog 18 #[pt bb 0, vi at_] w fun e w' => e = .returned (.tuple #[vi (tkK q at_), vi (tkE q at_)]) ∧ Fr w w' no no := by
 refine enter (args := [pt bb 0, vi at_]) (D := no) (A := []) Tryz.func18 rfl 18 rfl [(bb, .fn 0 12 (roF [pt b 0, vi 1, vi ((N : Nat) : Int), pt b 0, vi 0, vi 256, pt b 0, vi 0, vi 88, pt b 0, vi 257, vi ((N : Nat) : Int)]))] (WS.startL ⟨⟨rfl, hh0⟩, trivial⟩) fun ac hS => ?_
 refine hS.regS [0, 0] [0, 1] fun _ => seg [] [(0, none)] [] trivial fun ac wd hS => ?_
 refine wp_region_seq ?_
 refine hS.opsC 2 [0, 0] [] fun _ => seg [(10, pt bb 0), (11, vi at_)] [(0, none)] [] trivial fun ac wd hS => ?_
 refine hS.call0 68 #[pt bb 0, vi at_] 12 (bu_taken b F m bb N at_ _ _ _ _ _ (Res.keep hr hS.mem.fr) (hS.mem.get 0 bb (.fn 0 12 (roF [pt b 0, vi 1, vi ((N : Nat) : Int), pt b 0, vi 0, vi 256, pt b 0, vi 0, vi 88, pt b 0, vi 257, vi ((N : Nat) : Int)]))) (by first | assumption | omega | (simp_all; done) | (simp_all; omega)) (by first | assumption | omega | (simp_all; done) | (simp_all; omega))) fun ac wd hS => ?_
 refine hS.opsC 7 [0, 0, 0, 0, 0, 0, 0] [] fun _ => seg [(7, vi (tkK q at_)), (8, vi (tkE q at_))] [] [] trivial fun ac wd hS => ?_
 refine list_nil_seq ?_
 refine hS.regS [0, 0, 0, 0] [] fun _ => seg [(4, vi (tkK q at_)), (5, vi (tkE q at_))] [] [] trivial fun ac wd hS => ?_
 refine wp_ret ?_
 refine St.retC 0 hS (.tuple #[vi (tkK q at_), vi (tkE q at_)]) [] trivial fun hw => ?_
 refine ⟨retd rfl, hw.fr0⟩

set_option maxRecDepth 100000 in
set_option maxHeartbeats 1000000 in
theorem bu_Free (b : Nat) (F : Nat → Prop) (m : AM) (bb : Nat) (N : Nat) (at_ : Int) (g : Nat) (r : Int) (q : List Tg) (Q : Nat → List Int) (w : World) (hr : (arR b F m).R w) (hh0 : HE.holds w bb (.fn 0 12 (roF [pt b 0, vi 1, vi ((N : Nat) : Int), pt b 0, vi 0, vi 256, pt b 0, vi 0, vi 88, pt b 0, vi 257, vi ((N : Nat) : Int)]))) (hf0 : ¬ F bb) (hB : Bdy m N g r q Q) (hat : -9223372036854775808 ≤ at_ ∧ at_ ≤ 9223372036854775807) :
    Calls Tryz.prog 19 #[pt bb 0, vi at_] w fun e w' => ∃ (mo : AM) (q2 : List Tg) (Q2 : Nat → List Int) (F' : Nat → Prop), e = .returned (vi (tkE q at_)) ∧ Bdy mo N g r q2 Q2 ∧ FreeP q at_ q2 ∧ KeepT m mo q2 ∧ (arR b F' mo).R w' ∧ Fr w w' F F' := by
 refine enter (args := [pt bb 0, vi at_]) (D := F) (A := [arR b F m]) Tryz.func19 rfl 29 rfl [(bb, .fn 0 12 (roF [pt b 0, vi 1, vi ((N : Nat) : Int), pt b 0, vi 0, vi 256, pt b 0, vi 0, vi 88, pt b 0, vi 257, vi ((N : Nat) : Int)]))] (WS.startA (r := arR b F m) hr ⟨⟨rfl, hh0⟩, trivial⟩ ⟨hf0, trivial⟩) fun ac hS => ?_
 refine hS.regS [0] [0, 1] fun _ => seg [] [(0, none)] [] trivial fun ac wd hS => ?_
 refine wp_region_seq ?_
 refine hS.opsC 2 [0, 0] [0] fun _ => seg [(9, pt bb 0), (10, vi at_)] [(0, none)] [] trivial fun ac wd hS => ?_
 refine hS.call0 68 #[pt bb 0, vi at_] 11 (bu_taken b F m bb N at_ g r q Q _ (hS.mem.res 0) (hS.mem.get 0 bb (.fn 0 12 (roF [pt b 0, vi 1, vi ((N : Nat) : Int), pt b 0, vi 0, vi 256, pt b 0, vi 0, vi 88, pt b 0, vi 257, vi ((N : Nat) : Int)]))) (by exact hB) (by first | assumption | omega | (simp_all; done) | (simp_all; omega))) fun ac wd hS => ?_
 refine hS.opsC 7 [0, 0, 0, 0, 0, 0, 0] [0] fun _ => seg [(5, vi (tkI q at_)), (6, vi (tkK q at_)), (7, vi (tkE q at_))] [(0, none)] [] trivial fun ac wd hS => ?_
 refine list_nil_seq ?_
 refine wp_seq ?_
 refine hS.regS [0, 0] [0, 5, 6, 7] fun _ => seg [(16, vb (((tkE q at_) : Int) == 0))] [(0, none)] [] trivial fun ac wd hS => ?_
 refine hS.condC (((tkE q at_) : Int) == 0) (fun hb1o hb1 => ?_) (fun hb1o hb1 => ?_)
 ·
  have hD := hB.dropTI hb1
  have hT := hB.tk hb1
  refine wp_region_seq ?_
  refine hS.opsC 6 [0, 0, 0, 0, 0, 0] [0, 5, 6, 7] fun _ => seg [(20, .agg #[pt b 0, vi 257, vi ((N : Nat) : Int)]), (21, vi (tkI q at_)), (22, vi (tkK q at_))] [(0, none)] [.e bb, .p (0 ≤ 11 ∧ 11 < 12), .e bb, .p (0 ≤ 10 ∧ 10 < 12), .e bb, .p (0 ≤ 9 ∧ 9 < 12)] ⟨(by decide), (by decide), (by decide), trivial⟩ fun ac wd hS => ?_
  refine hS.callC 69 #[.agg #[pt b 0, vi 257, vi ((N : Nat) : Int)], vi (tkI q at_), vi (tkK q at_), v8 0] (tags_Lay_r b F m 257 ((N : Nat) : Int) (tkI q at_) (tkK q at_) 0 q _ (hS.mem.res 0) (by exact hB.bm.tg) (by first | assumption | omega | (simp_all; done) | (simp_all; omega))) ?_
  rintro _ wd ⟨F2, rfl, hA, hF⟩
  refine ⟨vi (rlE q (tkI q at_) (tkK q at_) 0), rfl, ?_⟩
  replace hS := (hS.to (hS.mem.stepA 0 rfl hA hF)).put (d := 23) (v := vi (rlE q (tkI q at_) (tkK q at_) 0)) (by decide)
  clear hF
  refine list_nil_seq ?_
  refine wp_region_lit ?_
  refine hS.opsC 3 [0, 0, 0] [7] fun _ => seg [(24, pt bb 0), (25, vi (tkI q at_)), (26, vi (tkK q at_))] [(0, none)] [] trivial fun ac wd hS => ?_
  refine hS.callC 70 #[pt bb 0, vi (tkI q at_), vi (tkK q at_)] (bu_release b F2 (tgLM m 257 ((N : Nat) : Int) (tkI q at_) (tkK q at_) 0) bb N (tkI q at_) (tkK q at_) g r (rlQ q (tkI q at_) (tkK q at_) 0) Q _ (hS.mem.res 0) (hS.mem.get 0 bb (.fn 0 12 (roF [pt b 0, vi 1, vi ((N : Nat) : Int), pt b 0, vi 0, vi 256, pt b 0, vi 0, vi 88, pt b 0, vi 257, vi ((N : Nat) : Int)]))) (hS.mem.nF (g := bb) (r := arR b F2 (tgLM m 257 ((N : Nat) : Int) (tkI q at_) (tkK q at_) 0)) 0 0) (by exact hD.1) (by first | assumption | omega | (simp_all; done) | (simp_all; omega)) (by first | assumption | omega | (simp_all; done) | (simp_all; omega)) (by exact hD.2.1)) ?_
  rintro _ wd ⟨mo3, q24, Q25, F6, rfl, hB27, hE28, hK29, hA, hF⟩
  refine ⟨.tuple #[], rfl, ?_⟩
  replace hS := (hS.to (hS.mem.stepA 0 rfl hA hF)).put (d := 27) (v := .tuple #[]) (by decide)
  clear hF
  refine list_nil ?_
  refine pop_then ?_
  refine hS.regS [0, 0] [] fun _ => seg [(4, vi (tkE q at_))] [] [] trivial fun ac wd hS => ?_
  refine wp_ret ?_
  refine St.retC 0 hS (vi (tkE q at_)) [] trivial fun hw => ?_
  refine ⟨mo3, q24, Q25, F6, retd rfl, ?_, ?_, ?_, (hw.res 0), hw.frA⟩
  all_goals (first | rfl | assumption | exact .inl ⟨hne, rfl⟩ | exact KeepT.refl _ _ | exact (hD.2.2 _ _ (by assumption) (by assumption)).1 | exact (hD.2.2 _ _ (by assumption) (by assumption)).2)
 ·
  have hne : tkE q at_ ≠ 0 := hb1
  refine wp_skip ?_
  refine pop_then ?_
  refine hS.regS [0, 0] [] fun _ => seg [(4, vi (tkE q at_))] [] [] trivial fun ac wd hS => ?_
  refine wp_ret ?_
  refine St.retC 0 hS (vi (tkE q at_)) [] trivial fun hw => ?_
  refine ⟨m, q, Q, F, retd rfl, ?_, ?_, ?_, (hw.res 0), hw.frA⟩
  all_goals (first | rfl | assumption | exact .inl ⟨hne, rfl⟩ | exact KeepT.refl _ _ | exact (hD.2.2 _ _ (by assumption) (by assumption)).1 | exact (hD.2.2 _ _ (by assumption) (by assumption)).2)

end Go.Proofs.YtojjkjedcafpeaaGreatDoor.K

/-
  Walks, printed by w2.py.
-/
namespace Go.Proofs.YtojjkjedcafpeaaGreatDoor.K
set_option linter.unusedVariables false
set_option linter.unusedSimpArgs false

set_option maxRecDepth 100000 in
set_option maxHeartbeats 1000000 in
theorem bu_Runs (b : Nat) (F : Nat → Prop) (m : AM) (bb : Nat) (N : Nat) (g : Nat) (r : Int) (q : List Tg) (Q : Nat → List Int) (w : World) (hr : (arR b F m).R w) (hh0 : HE.holds w 1 (.fn 0 64 dbT)) (hh1 : HE.holds w bb (.fn 0 12 (roF [pt b 0, vi 1, vi ((N : Nat) : Int), pt b 0, vi 0, vi 256, pt b 0, vi 0, vi 88, pt b 0, vi 257, vi ((N : Nat) : Int)]))) (hB : Bdy m N g r q Q) (hfl : FullG g q) :
    Calls Tryz.prog 17 #[pt bb 0] w fun e w' => ∃ (ao2 : Option Addr) (c2 : Nat) (g2 : Nat) (o2 : Nat), e = .returned (.slice ao2 ((rnTo q g).length) c2) ∧ ((rnTo q g).length = 0 ∨ ao2 = some ⟨g2, o2, none⟩) ∧ (g2 = 1 ∨ w.heap.size ≤ g2) ∧ HE.holds w' g2 (.fn o2 (o2 + (rnTo q g).length * 3) (rnV (gtD (rnTo q g)) o2)) ∧ Fr w w' no no := by
 have hcn := hB.bm.cn
 have hnb := hB.bm.nb
 refine enter (args := [pt bb 0]) (D := no) (A := []) Tryz.func17 rfl 39 rfl [(1, .fn 0 64 dbT), (bb, .fn 0 12 (roF [pt b 0, vi 1, vi ((N : Nat) : Int), pt b 0, vi 0, vi 256, pt b 0, vi 0, vi 88, pt b 0, vi 257, vi ((N : Nat) : Int)]))] (WS.startL ⟨⟨rfl, hh0⟩, ⟨rfl, hh1⟩, trivial⟩) fun ac hS => ?_
 refine hS.regS [0] [0] fun _ => seg [] [(0, none), (1, none)] [] trivial fun ac wd hS => ?_
 refine hS.regS [0] [0] fun _ => seg [(3, vnil)] [(0, none), (1, none)] [] trivial fun ac wd hS => ?_
 refine wp_seq ?_
 replace hS := hS.to (hS.mem.grNew 41 3 (rnV (gtD ([] : List (Int × Int × Bool))) 0))
 refine hS.regS [0] [0, 3] fun _ => seg [(4, vi 0)] [(0, none), (1, none)] [] trivial fun ac wd hS => ?_
 refine wp_block ?_
 refine St.loopC (σ := Int × Option Addr × Nat × (Nat → Prop) × (List (Int × Int × Bool))) (fun (x : Int × Option Addr × Nat × (Nat → Prop) × (List (Int × Int × Bool))) => match x with | (x4, aoq, cq, Fq, lq) => ⟨[(0, [], pt bb 0), (3, [], .slice aoq lq.length cq), (4, [], vi x4)], [(1, .fn 0 64 dbT), (bb, .fn 0 12 (roF [pt b 0, vi 1, vi ((N : Nat) : Int), pt b 0, vi 0, vi 256, pt b 0, vi 0, vi 88, pt b 0, vi 257, vi ((N : Nat) : Int)]))], [grR 41 3 (.slice aoq lq.length cq) Fq (lq.length, (rnV (gtD lq) 0))], (0 ≤ x4 ∧ x4 ≤ (g : Int)) ∧ (lq = rnTo q (Int.toNat x4)) ∧ (rnUp q (Int.toNat x4)) ∧ True, Int.toNat ((g : Int) - x4)⟩) (0, none, 0, no, ([] : List (Int × Int × Bool))) ⟨(by first | omega | rfl | exact rnUp_0 _), (by first | omega | rfl | exact rnUp_0 _), (by first | omega | rfl | exact rnUp_0 _), trivial⟩ hS ?_
 clear hS
 rintro ⟨x4, aoq, cq, Fq, lq⟩ ⟨i0, i1, i2, -⟩ ac wd hS
 replace i0 : 0 ≤ x4 ∧ x4 ≤ (g : Int) := i0
 replace i1 : lq = rnTo q (Int.toNat x4) := i1
 replace i2 : rnUp q (Int.toNat x4) := i2
 refine wp_seq ?_
 refine wp_region_seq ?_
 refine hS.opsC 2 [0, 0] [0, 3, 4] fun _ => seg [(7, vi x4), (8, pt bb 0)] [(0, none), (1, none)] [] trivial fun ac wd hS => ?_
 refine hS.call0 24 #[pt bb 0] 9 (bu_Grown b F m bb N g r q Q _ (Res.keep hr hS.mem.fr) (hS.mem.get 1 bb (.fn 0 12 (roF [pt b 0, vi 1, vi ((N : Nat) : Int), pt b 0, vi 0, vi 256, pt b 0, vi 0, vi 88, pt b 0, vi 257, vi ((N : Nat) : Int)]))) (by exact hB)) fun ac wd hS => ?_
 refine hS.opsC 1 [0] [0, 3, 4] fun _ => seg [(10, vb (decide ((x4 : Int) < (g : Int))))] [(0, none), (1, none)] [] trivial fun ac wd hS => ?_
 refine list_nil_seq ?_
 refine hS.condC (decide ((x4 : Int) < (g : Int))) (fun hb1o hb1 => ?_) (fun hb1o hb1 => ?_)
 ·
  obtain ⟨hs1, hs2, hs3, hs4, hs5, hs6⟩ := hB.rnJ hfl i0.1 (by omega) i2
  refine wp_skip ?_
  refine pop_then ?_
  refine wp_block ?_
  refine wp_region_seq ?_
  refine hS.opsC 5 [0, 0, 0, 100, 0] [0, 3, 4] fun _ => seg [(15, .agg #[pt b 0, vi 257, vi ((N : Nat) : Int)]), (16, vi x4)] [(0, none), (1, none)] [.e bb, .p (0 ≤ 11 ∧ 11 < 12), .e bb, .p (0 ≤ 10 ∧ 10 < 12), .e bb, .p (0 ≤ 9 ∧ 9 < 12)] ⟨(by decide), (by decide), (by decide), trivial⟩ fun ac wd hS => ?_
  refine hS.call0 66 #[.agg #[pt b 0, vi 257, vi ((N : Nat) : Int)], vi x4] 17 (tags_Get_r b F m 257 ((N : Nat) : Int) x4 q _ (Res.keep hr hS.mem.fr) (by exact hB.bm.tg)) fun ac wd hS => ?_
  refine hS.opsC 6 [0, 0, 0, 0, 200, 0] [0, 3, 4] fun ν7 => seg [(5, pt (ν7 0) 0)] [(0, none), (1, none), (2, some ((ν7 0), .cells [v8 (((rgV q x4)).1), v8 (((rgV q x4)).2)] 107))] [.e (ν7 0), .e (ν7 0)] trivial fun ac wd hS => ?_
  refine list_nil_seq ?_
  refine St.ordBeginS [(0, 1), (1, 1), (2, 1), (4, 1), (5, 1), (6, 1), (7, 1), (8, 1), (9, 1), (3, 0), (10, 1), (11, 0), (12, 0), (13, 1)] [(1, .fn 0 64 dbT), (bb, .fn 0 12 (roF [pt b 0, vi 1, vi ((N : Nat) : Int), pt b 0, vi 0, vi 256, pt b 0, vi 0, vi 88, pt b 0, vi 257, vi ((N : Nat) : Int)])), ((ν7 0), .cells [v8 (((rgV q x4)).1), v8 (((rgV q x4)).2)] 107)] [0, 1, 2] hS fun wd hS => ?_
  have hap := hS.mem.pairs (Hf := [(1, .fn 0 64 dbT), (bb, .fn 0 12 (roF [pt b 0, vi 1, vi ((N : Nat) : Int), pt b 0, vi 0, vi 256, pt b 0, vi 0, vi 88, pt b 0, vi 257, vi ((N : Nat) : Int)])), ((ν7 0), .cells [v8 (((rgV q x4)).1), v8 (((rgV q x4)).2)] 107)]) (l := [0, 1, 2])
  refine St.ordF [0, 0, 0, 0, 200, 20, 0, 200, 0] [0, 1, 2, 4, 5, 6, 7, 8, 9] [0, 3, 4, 5] (rest := [(3, 0), (10, 1), (11, 0), (12, 0), (13, 1)]) hS hap <| segF [(20, .slice aoq lq.length cq), (21, pt bb 0), (22, vi x4), (26, vi (((rgV q x4)).2)), (29, vb ((((rgV q x4)).1 : Int) == 3))] [.e (ν7 0), .p (fit .i64 (((rgV q x4)).2)), .e (ν7 0)] ⟨fit_i64 (by omega), trivial⟩ fun ac hS => ?_
  refine hS.ordC 3 67 #[pt bb 0, vi x4] (bu_at bb b N x4 _ (hS.mem.get 1 bb (.fn 0 12 (roF [pt b 0, vi 1, vi ((N : Nat) : Int), pt b 0, vi 0, vi 256, pt b 0, vi 0, vi 88, pt b 0, vi 257, vi ((N : Nat) : Int)]))) (by first | assumption | omega | (simp_all; done) | (simp_all; omega))) ?_
  rintro _ wd ⟨rfl, hF⟩
  refine ⟨vi ((1 + x4) * 4096), rfl, ?_⟩
  replace hS := (hS.to (hS.mem.keep0 hF)).put (d := 23) (v := vi ((1 + x4) * 4096)) (by decide)
  clear hF
  refine hS.ordV (l := [0, 1, 2]) ?_
  refine St.ordF [0] [10] [0, 3, 4, 5, 20] (rest := [(11, 0), (12, 0), (13, 1)]) hS hap <| segF [(30, .agg #[vi ((1 + x4) * 4096), vi (((rgV q x4)).2), vb ((((rgV q x4)).1 : Int) == 3)])] [] trivial fun ac hS => ?_
  refine St.ord1 11 [0] [0, 3, 4, 5, 20] [0, 1, 2] hS rfl fun ν8 => seg [(31, sc (ν8 0) 0 1 1)] [(0, none), (1, none), (2, none), (3, some ((ν8 0), .cells [vi ((1 + x4) * 4096), vi (((rgV q x4)).2), vb ((((rgV q x4)).1 : Int) == 3)] 41))] [] trivial ⟨by as_aux_lemma => kernel_rfl, fun ac wd hS => ?_⟩
  refine Runs1.ord (i := 12) ?_
  obtain ⟨i_, hi_, hz_, hs_, hb_⟩ := info_get (P := Tryz.prog) (e := 41) (z := .agg #[vi 0, vi 0, vb false]) (s := 3) (b := 24) (by kernel_rfl)
  refine St.appV (m := lq.length) (f := (rnV (gtD lq) 0)) (news := [vi ((1 + x4) * 4096), vi (((rgV q x4)).2), vb ((((rgV q x4)).1 : Int) == 3)]) (bx := (ν8 0)) (cx := 1) (Tx := 41) 0 hS (.tmp 20) (.tmp 31) 38 rfl rfl (by decide) Tryz.underlying38 hi_ hz_ hs_ (by omega) rfl (by decide) 3 rfl rfl (by (have := rnTo_len q (Int.toNat x4); rw [← i1] at this; omega)) fun ac wd v2_ F4 hB5 hS => ?_
  obtain ⟨xo2, xc3, rfl⟩ := hB5.slice
  replace hS := hS.to (hS.mem.grTell (m := (lq.length + 1)) 0 (rnV (gtD (lq ++ [(((1 + x4) * 4096), ((rgV q x4)).2, ((((rgV q x4)).1 : Int) == 3))])) 0) (rnV_app lq ((1 + x4) * 4096) (((rgV q x4)).2) ((((rgV q x4)).1 : Int) == 3)))
  have hm_ : lq.length + 1 = ((lq ++ [(((1 + x4) * 4096), ((rgV q x4)).2, ((((rgV q x4)).1 : Int) == 3))])).length := by simp
  replace hS := hS.to (hS.mem.grRe (v := .slice xo2 (lq.length + 1) xc3) (v' := .slice xo2 (((lq ++ [(((1 + x4) * 4096), ((rgV q x4)).2, ((((rgV q x4)).1 : Int) == 3))])).length) xc3) (m := (lq.length + 1)) (m' := ((lq ++ [(((1 + x4) * 4096), ((rgV q x4)).2, ((((rgV q x4)).1 : Int) == 3))])).length) (f := (rnV (gtD (lq ++ [(((1 + x4) * 4096), ((rgV q x4)).2, ((((rgV q x4)).1 : Int) == 3))])) 0)) 0 (by rw [hm_]) hm_)
  replace hS := hS.fix 32 (.slice xo2 (((lq ++ [(((1 + x4) * 4096), ((rgV q x4)).2, ((((rgV q x4)).1 : Int) == 3))])).length) xc3) (show (.slice xo2 (lq.length + 1) xc3 : Value) = .slice xo2 (((lq ++ [(((1 + x4) * 4096), ((rgV q x4)).2, ((((rgV q x4)).1 : Int) == 3))])).length) xc3 by rw [hm_])
  refine hS.ordV (l := [0, 1, 2]) ?_
  refine St.ordF [0] [13] [0, 4, 5] (rest := []) hS hap <| segF [(3, .slice xo2 (((lq ++ [(((1 + x4) * 4096), ((rgV q x4)).2, ((((rgV q x4)).1 : Int) == 3))])).length) xc3)] [] trivial fun ac hS => ?_
  refine ord_nil ?_
  refine hS.regC [0, 0, 200, 20, 20, 0] [0, 3] fun _ => seg [(4, vi (x4 + (1 * (2 ^ Int.toNat (((rgV q x4)).2)))))] [(0, none), (1, none)] [.p (fit .i64 (x4 + (1 * (2 ^ Int.toNat (((rgV q x4)).2))))), .p ((0 : Int) ≤ (((rgV q x4)).2) ∧ IntKind.i64.wrap (1 * 2 ^ (min (Int.toNat (((rgV q x4)).2)) 64)) = (1 * (2 ^ Int.toNat (((rgV q x4)).2)))), .e (ν7 0)] ⟨fit_i64 (by omega), shl2_i64 (by omega) (by omega) (by exact pgsN_sh (by omega)), trivial⟩ fun ac wd hS => ?_
  refine pop_block ?_
  exact pop_then (hS.next ((x4 + (1 * (2 ^ Int.toNat (((rgV q x4)).2)))), xo2, xc3, F4, (lq ++ [(((1 + x4) * 4096), ((rgV q x4)).2, ((((rgV q x4)).1 : Int) == 3))])) ⟨(by first | omega | assumption | (simp; done) | (simp; omega)), (by rw [i1]; exact hs1.symm), (by exact hs2), trivial⟩ (by dsimp only; omega))
 ·
  refine wp_exit ?_
  refine pop_then_exit ?_
  refine pop_then_exit ?_
  refine pop_block_hit ?_
  refine pop_then ?_
  refine hS.regS [0, 0] [] fun _ => seg [(2, .slice aoq lq.length cq)] [(0, none)] [] trivial fun ac wd hS => ?_
  refine wp_ret ?_
  have hq_ : (rnTo q g) = lq := (show lq = (rnTo q g) by rw [i1, show Int.toNat x4 = g by omega]).symm
  subst hq_
  rcases Nat.eq_zero_or_pos ((rnTo q g).length) with hz_ | hz_
  ·
   have hm_ : (rnTo q g).length = 0 := by exact hz_
   replace hS := hS.to (hS.mem.grRe (v := .slice aoq ((rnTo q g).length) cq) (v' := .slice aoq 0 cq) (m := ((rnTo q g).length)) (m' := 0) (f := (rnV (gtD (rnTo q g)) 0)) 0 (by rw [hm_]) hm_)
   replace hS := hS.fix 2 (.slice aoq 0 cq) (show (.slice aoq ((rnTo q g).length) cq : Value) = .slice aoq 0 cq by rw [hm_])
   obtain ⟨hv_, hO⟩ := WS.grNil (e := 41) (sz := 3) (m := 0) (f := (rnV (gtD (rnTo q g)) 0)) hS.mem (by first | omega | rfl)
   obtain ⟨rfl, rfl⟩ : (none : Option Addr) = aoq ∧ 0 = cq := by cases hv_; exact ⟨rfl, rfl⟩
   clear hv_
   replace hS := hS.to hO
   clear hO
   refine St.retC 0 hS (vnil) [] trivial fun hw => ?_
   refine ⟨none, 0, 1, 0, retd (slN ?_), (by first | exact (.inl rfl) | exact .inl hz_ | (rw [← hD]; exact (.inl rfl)) | (rw [← hD]; exact .inl hz_)), (by omega), (HE.fn_none (hw.get 0 1 (.fn 0 64 dbT)) ?_), hw.fr0⟩
   all_goals (first | (first | omega | (simp; omega) | rfl) | (intro x_ hx_; rfl) | (intro x_ hx_ hy_; rfl))
  ·
   obtain ⟨gg6, cp7, hv_, hcp_, hO⟩ := WS.grOpen (e := 41) (sz := 3) (m := ((rnTo q g).length)) (f := (rnV (gtD (rnTo q g)) 0)) hS.mem (by omega)
   obtain ⟨rfl, rfl⟩ : some (⟨gg6, 0, none⟩ : Addr) = aoq ∧ cp7 = cq := by cases hv_; exact ⟨rfl, rfl⟩
   clear hv_
   replace hS := hS.to hO
   clear hO
   refine St.retC 0 hS (sc gg6 0 ((rnTo q g).length) cp7) [] trivial fun hw => ?_
   refine ⟨(some ⟨gg6, 0, none⟩), cp7, gg6, 0, retd rfl, (by first | exact (.inr rfl) | exact .inl hz_ | (rw [← hD]; exact (.inr rfl)) | (rw [← hD]; exact .inl hz_)), (by have hg_ : w.heap.size ≤ gg6 := (hw.getm 1 gg6 (.row 41 ((rnTo q g).length * 3) (cp7 * 3) (rnV (gtD (rnTo q g)) 0))).resolve_right (fun h => h); omega), (HE.row_to (hw.get 1 gg6 (.row 41 ((rnTo q g).length * 3) (cp7 * 3) (rnV (gtD (rnTo q g)) 0))) ?_ ?_), hw.fr0⟩
   all_goals (first | (first | omega | (simp; omega) | rfl) | (intro x_ hx_; rfl) | (intro x_ hx_ hy_; rfl))

end Go.Proofs.YtojjkjedcafpeaaGreatDoor.K

/-
  Walks, printed by w2.py.
-/
namespace Go.Proofs.YtojjkjedcafpeaaGreatDoor.K
set_option linter.unusedVariables false
set_option linter.unusedSimpArgs false

set_option maxRecDepth 100000 in
set_option maxHeartbeats 1000000 in
theorem bits_Len64 (x : Int) (w : World) (hx0 : 0 ≤ x) (hx1 : x < 256) :
    Calls Tryz.prog 122 #[vu x] w fun e w' => e = .returned (vi (blen x)) ∧ Fr w w' no no := by
 have hb1 := fun y => bat_len8 (y := y)
 have hlx : 0 ≤ bat len8 x ∧ bat len8 x ≤ 255 := bat_byte _ _
 refine enter (args := [vu x]) (D := no) (A := []) Tryz.func122 rfl 25 rfl [] (WS.startL trivial) fun ac hS => ?_
 refine hS.regS [0] [0] fun _ => seg [(2, vi 0)] [] [] trivial fun ac wd hS => ?_
 refine wp_seq ?_
 refine hS.regS [0, 0] [0, 2] fun _ => seg [(4, vb (decide ((4294967296 : Int) ≤ x)))] [] [] trivial fun ac wd hS => ?_
 refine hS.condK (decide ((4294967296 : Int) ≤ x)) false (by exact decide_eq_false (by omega)) ?_
 show Code.wp _ _ _ _ _
 refine wp_skip ?_
 refine pop_then ?_
 refine wp_seq ?_
 refine hS.regS [0, 0] [0, 2] fun _ => seg [(8, vb (decide ((65536 : Int) ≤ x)))] [] [] trivial fun ac wd hS => ?_
 refine hS.condK (decide ((65536 : Int) ≤ x)) false (by exact decide_eq_false (by omega)) ?_
 show Code.wp _ _ _ _ _
 refine wp_skip ?_
 refine pop_then ?_
 refine wp_seq ?_
 refine hS.regS [0, 0] [0, 2] fun _ => seg [(14, vb (decide ((256 : Int) ≤ x)))] [] [] trivial fun ac wd hS => ?_
 refine hS.condK (decide ((256 : Int) ≤ x)) false (by exact decide_eq_false (by omega)) ?_
 show Code.wp _ _ _ _ _
 refine wp_skip ?_
 refine pop_then ?_
 refine hS.regS [0, 0, 20, 10, 20, 20, 0] [] fun _ => seg [(2, vi (0 + (bat len8 x)))] [] [.p (fit .i64 (0 + (bat len8 x))), .p (fit .i64 (bat len8 x)), .p (0 ≤ x ∧ x < (ByteArray.size len8 : Int)), .p (fit .u8 x)] ⟨fit_i64 (by omega), fit_i64 (by omega), (by first | (simp only [len8_size]; omega) | omega), fit_u8 (by omega), trivial⟩ fun ac wd hS => ?_
 refine wp_ret ?_
 refine St.retC 0 hS (vi (0 + (bat len8 x))) [] trivial fun hw => ?_
 refine ⟨retd (vint ?_), hw.fr0⟩
 all_goals ((rw [Int.zero_add, bat_len8 (by omega) (by omega)]))

set_option maxRecDepth 100000 in
set_option maxHeartbeats 1000000 in
theorem bits_LenU (x : Int) (w : World) (hx0 : 0 ≤ x) (hx1 : x < 256) :
    Calls Tryz.prog 76 #[vu x] w fun e w' => e = .returned (vi (blen x)) ∧ Fr w w' no no := by
 refine enter (args := [vu x]) (D := no) (A := []) Tryz.func76 rfl 8 rfl [] (WS.startL trivial) fun ac hS => ?_
 refine hS.regS [0] [0] fun _ => seg [] [] [] trivial fun ac wd hS => ?_
 refine wp_seq ?_
 refine wp_cond_false rfl ?_
 refine wp_skip ?_
 refine pop_then ?_
 refine wp_region_seq ?_
 refine hS.opsC 1 [0] [] fun _ => seg [(6, vu x)] [] [] trivial fun ac wd hS => ?_
 refine hS.call0 122 #[vu x] 7 (bits_Len64 x _  (by first | assumption | omega | (simp_all; done) | (simp_all; omega)) (by first | assumption | omega | (simp_all; done) | (simp_all; omega))) fun ac wd hS => ?_
 refine hS.opsC 1 [0] [] fun _ => seg [(2, vi (blen x))] [] [] trivial fun ac wd hS => ?_
 refine list_nil_seq ?_
 refine wp_ret ?_
 refine St.retC 0 hS (vi (blen x)) [] trivial fun hw => ?_
 refine ⟨retd rfl, hw.fr0⟩

set_option maxRecDepth 100000 in
set_option maxHeartbeats 1000000 in
theorem bits_TzN (x : Nat) (w : World) (hh0 : HE.holds w 1 (.fn 0 64 dbT)) (h0 : x < 2 ^ 64) (h1 : 0 < x) :
    Calls Tryz.prog 75 #[vu ((x : Nat) : Int)] w fun e w' => e = .returned (vi ((tz x : Nat) : Int)) ∧ Fr w w' no no := by
 refine enter (args := [vu ((x : Nat) : Int)]) (D := no) (A := []) Tryz.func75 rfl 8 rfl [(1, .fn 0 64 dbT)] (WS.startL ⟨⟨rfl, hh0⟩, trivial⟩) fun ac hS => ?_
 refine hS.regS [0] [0] fun _ => seg [] [(0, none)] [] trivial fun ac wd hS => ?_
 refine wp_seq ?_
 refine wp_cond_false rfl ?_
 refine wp_skip ?_
 refine pop_then ?_
 refine wp_region_seq ?_
 refine hS.opsC 1 [0] [] fun _ => seg [(6, vu ((x : Nat) : Int))] [(0, none)] [] trivial fun ac wd hS => ?_
 refine hS.call0 120 #[vu ((x : Nat) : Int)] 7 (bits_Tz x _ (hS.mem.get 0 1 (.fn 0 64 dbT)) (by first | assumption | omega | (simp_all; done) | (simp_all; omega)) (by first | assumption | omega | (simp_all; done) | (simp_all; omega))) fun ac wd hS => ?_
 refine hS.opsC 1 [0] [] fun _ => seg [(2, vi ((tz x : Nat) : Int))] [(0, none)] [] trivial fun ac wd hS => ?_
 refine list_nil_seq ?_
 refine wp_ret ?_
 refine St.retC 0 hS (vi ((tz x : Nat) : Int)) [] trivial fun hw => ?_
 refine ⟨retd rfl, hw.fr0⟩

theorem bits_TzU (x : Int) (w : World) (hh0 : HE.holds w 1 (.fn 0 64 dbT)) (hx : 0 < x ∧ x < 18446744073709551616) :
    Calls Tryz.prog 75 #[vu x] w fun e w' => e = .returned (vi ((tz (Int.toNat x) : Nat) : Int)) ∧ Fr w w' no no := by
 obtain ⟨n, rfl⟩ : ∃ n : Nat, x = n := ⟨x.toNat, by omega⟩
 exact bits_TzN n w hh0 (by omega) (by omega)

set_option maxRecDepth 100000 in
set_option maxHeartbeats 1000000 in
theorem bu_Grow (b : Nat) (F : Nat → Prop) (m : AM) (bb : Nat) (N : Nat) (k : Int) (g : Nat) (r : Int) (q : List Tg) (Q : Nat → List Int) (w : World) (hr : (arR b F m).R w) (hh0 : HE.holds w 1 (.fn 0 64 dbT)) (hh1 : HE.holds w bb (.fn 0 12 (roF [pt b 0, vi 1, vi ((N : Nat) : Int), pt b 0, vi 0, vi 256, pt b 0, vi 0, vi 88, pt b 0, vi 257, vi ((N : Nat) : Int)]))) (hf0 : ¬ F 1) (hf1 : ¬ F bb) (hB : Bdy m N g r q Q) (hfl : FullG g q) :
    Calls Tryz.prog 23 #[pt bb 0, vi k] w fun e w' => ∃ (mo : AM) (q2 : List Tg) (Q2 : Nat → List Int) (F' : Nat → Prop), e = .returned (vi (gwE N g r k)) ∧ Bdy mo N (gwG N g r k) (gwR N g r k) q2 Q2 ∧ FullG (gwG N g r k) q2 ∧ (∀ (j : Nat) (t : Int), gtD q2 j = (3, t) ↔ gtD q j = (3, t)) ∧ (gwE N g r k ≠ 0 → q2 = q) ∧ KeepT m mo q ∧ (arR b F' mo).R w' ∧ Fr w w' F F' := by
 have hcn := hB.bm.cn
 have hnb := hB.bm.nb
 have huf := upG_facts g k
 refine enter (args := [pt bb 0, vi k]) (D := F) (A := [arR b F m]) Tryz.func23 rfl 90 rfl [(1, .fn 0 64 dbT), (bb, .fn 0 12 (roF [pt b 0, vi 1, vi ((N : Nat) : Int), pt b 0, vi 0, vi 256, pt b 0, vi 0, vi 88, pt b 0, vi 257, vi ((N : Nat) : Int)]))] (WS.startA (r := arR b F m) hr ⟨⟨rfl, hh0⟩, ⟨rfl, hh1⟩, trivial⟩ ⟨hf0, hf1, trivial⟩) fun ac hS => ?_
 refine hS.regS [0] [0, 1] fun _ => seg [] [(0, none), (1, none)] [] trivial fun ac wd hS => ?_
 refine wp_seq ?_
 refine wp_block ?_
 refine hS.regS [0, 0, 0] [0, 1] fun _ => seg [(9, vb false)] [(0, none), (1, none)] [] trivial fun ac wd hS => ?_
 refine hS.condF ?_
 refine hS.regS [0, 0, 0, 3, 3, 80, 0] [0, 1] fun _ => seg [(12, vb ((decide ((k : Int) < 0)) || (decide ((10 : Int) < k))))] [(0, none), (1, none)] [] trivial fun ac wd hS => ?_
 refine hS.condC ((decide ((k : Int) < 0)) || (decide ((10 : Int) < k))) (fun hb1o hb1 => ?_) (fun hb1o hb1 => ?_)
 ·
  have hbd : gwBad k = true := hb1o
  have hG := gr_1 (N := N) (g := g) (r := r) hbd
  refine hS.regS [0] [] fun _ => seg [(4, vi 2)] [(0, none)] [] trivial fun ac wd hS => ?_
  refine wp_ret ?_
  refine pop_block_ret ?_
  refine pop_then_ret ?_
  refine St.retC 0 hS (vi 2) [] trivial fun hw => ?_
  refine ⟨m, q, Q, F, retd (vint ?_), ?_, ?_, ?_, ?_, ?_, (hw.res 0), hw.frA⟩
  all_goals (first | exact hG.1 | (rw [hG.2.1, hG.2.2]; first | exact hB | exact hrf.2.1 | assumption) | (rw [hG.2.1]; first | exact hfl | exact fill_full (fill_st (x := upG g k) (e9 ▸ i2) (by assumption) (by omega) rfl)) | exact fun _ _ => Iff.rfl | exact fun _ => rfl | exact KeepT.refl _ _ | exact fun p t _ y _ _ => by rw [hrf.2.2] | exact fun j t => (RelE.tk (by assumption) j t).trans (i3 j t) | exact fun h => absurd hG.1.symm h | exact i4.trans (by assumption) (fun j t => (i3 j t).2))
 ·
  have hbd : gwBad k = false := hb1o
  have hk10 := gr_bad hbd
  have hpb := pw_bd hk10
  refine wp_skip ?_
  refine pop_block ?_
  refine pop_then ?_
  refine St.ordBeginS [(0, 1), (2, 1), (3, 1), (1, 0), (4, 1), (5, 1)] [(1, .fn 0 64 dbT), (bb, .fn 0 12 (roF [pt b 0, vi 1, vi ((N : Nat) : Int), pt b 0, vi 0, vi 256, pt b 0, vi 0, vi 88, pt b 0, vi 257, vi ((N : Nat) : Int)]))] [0, 1] hS fun wd hS => ?_
  have hap := hS.mem.pairs (Hf := [(1, .fn 0 64 dbT), (bb, .fn 0 12 (roF [pt b 0, vi 1, vi ((N : Nat) : Int), pt b 0, vi 0, vi 256, pt b 0, vi 0, vi 88, pt b 0, vi 257, vi ((N : Nat) : Int)]))]) (l := [0, 1])
  refine St.ordF [0, 0, 20] [0, 2, 3] [0, 1] (rest := [(1, 0), (4, 1), (5, 1)]) hS hap <| segF [(19, pt bb 0), (22, vi (1 * (2 ^ Int.toNat k)))] [.p ((0 : Int) ≤ k ∧ IntKind.i64.wrap (1 * 2 ^ (min (Int.toNat k) 64)) = (1 * (2 ^ Int.toNat k)))] ⟨shl2_i64 (by omega) (by omega) (by exact pgsN_sh (by omega)), trivial⟩ fun ac hS => ?_
  refine hS.ordC 1 24 #[pt bb 0] (bu_Grown b F m bb N g r q Q _ (hS.mem.res 0) (hS.mem.get 1 bb (.fn 0 12 (roF [pt b 0, vi 1, vi ((N : Nat) : Int), pt b 0, vi 0, vi 256, pt b 0, vi 0, vi 88, pt b 0, vi 257, vi ((N : Nat) : Int)]))) (by exact hB)) ?_
  rintro _ wd ⟨rfl, hF⟩
  refine ⟨vi (g : Int), rfl, ?_⟩
  replace hS := (hS.to (hS.mem.keep0 hF)).put (d := 20) (v := vi (g : Int)) (by decide)
  clear hF
  refine hS.ordV (l := [0, 1]) ?_
  refine St.ordF [0, 0] [4, 5] [0, 1] (rest := []) hS hap <| segF [(5, vi (g : Int)), (6, vi (1 * (2 ^ Int.toNat k)))] [] trivial fun ac hS => ?_
  refine ord_nil ?_
  refine hS.regS [0, 0, 20, 20, 0, 20, fx 0 (vi (upG g k)), 0] [0, 1, 5, 6] fun _ => seg [(7, vi (upG g k))] [(0, none), (1, none)] [.p ((vi (iandNot .i64 (((g : Int) + (1 * (2 ^ Int.toNat k))) - 1) ((1 * (2 ^ Int.toNat k)) - 1)) : Value) = vi (upG g k)), .p (fit .i64 ((1 * (2 ^ Int.toNat k)) - 1)), .p (fit .i64 (((g : Int) + (1 * (2 ^ Int.toNat k))) - 1)), .p (fit .i64 ((g : Int) + (1 * (2 ^ Int.toNat k))))] ⟨(vint (upG_eq (by omega) (by omega))), fit_i64 (by omega), fit_i64 (by omega), fit_i64 (by omega), trivial⟩ fun ac wd hS => ?_
  refine wp_seq ?_
  refine hS.regS [0, 0, 0, 0, 100, 0, 20, 0] [0, 1, 5, 6, 7] fun _ => seg [(37, vb (decide (((((N : Nat) : Int) - (1 * (2 ^ Int.toNat k))) : Int) < (upG g k))))] [(0, none), (1, none)] [.p (fit .i64 (((N : Nat) : Int) - (1 * (2 ^ Int.toNat k)))), .e bb, .p (0 ≤ 2 ∧ 2 < 12)] ⟨fit_i64 (by omega), (by decide), trivial⟩ fun ac wd hS => ?_
  refine hS.condC (decide (((((N : Nat) : Int) - (1 * (2 ^ Int.toNat k))) : Int) < (upG g k))) (fun hb2o hb2 => ?_) (fun hb2o hb2 => ?_)
  ·
   have hG := gr_2 (N := N) (g := g) (r := r) hbd (by omega)
   refine hS.regS [0] [] fun _ => seg [(4, vi 4)] [(0, none)] [] trivial fun ac wd hS => ?_
   refine wp_ret ?_
   refine pop_then_ret ?_
   refine St.retC 0 hS (vi 4) [] trivial fun hw => ?_
   refine ⟨m, q, Q, F, retd (vint ?_), ?_, ?_, ?_, ?_, ?_, (hw.res 0), hw.frA⟩
   all_goals (first | exact hG.1 | (rw [hG.2.1, hG.2.2]; first | exact hB | exact hrf.2.1 | assumption) | (rw [hG.2.1]; first | exact hfl | exact fill_full (fill_st (x := upG g k) (e9 ▸ i2) (by assumption) (by omega) rfl)) | exact fun _ _ => Iff.rfl | exact fun _ => rfl | exact KeepT.refl _ _ | exact fun p t _ y _ _ => by rw [hrf.2.2] | exact fun j t => (RelE.tk (by assumption) j t).trans (i3 j t) | exact fun h => absurd hG.1.symm h | exact i4.trans (by assumption) (fun j t => (i3 j t).2))
  ·
   have hfit : upG g k ≤ (N : Int) - 1 * 2 ^ Int.toNat k := by omega
   refine wp_skip ?_
   refine pop_then ?_
   refine wp_seq ?_
   refine St.ordBeginS [(0, 1), (1, 1), (2, 1), (3, 1), (4, 1), (5, 1), (6, 1), (7, 1), (8, 1), (9, 1), (10, 1), (11, 1), (12, 1), (13, 1), (14, 1), (15, 0), (16, 1)] [(1, .fn 0 64 dbT), (bb, .fn 0 12 (roF [pt b 0, vi 1, vi ((N : Nat) : Int), pt b 0, vi 0, vi 256, pt b 0, vi 0, vi 88, pt b 0, vi 257, vi ((N : Nat) : Int)]))] [0, 1] hS fun wd hS => ?_
   have hap := hS.mem.pairs (Hf := [(1, .fn 0 64 dbT), (bb, .fn 0 12 (roF [pt b 0, vi 1, vi ((N : Nat) : Int), pt b 0, vi 0, vi 256, pt b 0, vi 0, vi 88, pt b 0, vi 257, vi ((N : Nat) : Int)]))]) (l := [0, 1])
   refine St.ordF [0, 0, 0, 100, 0, 0, 0, 100, 0, 20, 0, 0, 20, 0, 20] [0, 1, 2, 3, 4, 5, 6, 7, 8, 9, 10, 11, 12, 13, 14] [0, 1, 5, 6, 7] (rest := [(15, 0), (16, 1)]) hS hap <| segF [(41, pt b 0), (47, vi (1 + (g : Int))), (52, vi (((upG g k) + (1 * (2 ^ Int.toNat k))) - (g : Int)))] [.p (fit .i64 (((upG g k) + (1 * (2 ^ Int.toNat k))) - (g : Int))), .p (fit .i64 ((upG g k) + (1 * (2 ^ Int.toNat k)))), .p (fit .i64 (1 + (g : Int))), .e bb, .p (0 ≤ 1 ∧ 1 < 12), .e bb, .p (0 ≤ 0 ∧ 0 < 12)] ⟨fit_i64 (by omega), fit_i64 (by omega), fit_i64 (by omega), (by decide), (by decide), trivial⟩ fun ac hS => ?_
   refine hS.ordC 15 56 #[pt b 0, vi (1 + (g : Int)), vi (((upG g k) + (1 * (2 ^ Int.toNat k))) - (g : Int))] (ar_Commit b F m (1 + (g : Int)) (((upG g k) + (1 * (2 ^ Int.toNat k))) - (g : Int)) _ (hS.mem.res 0) ) ?_
   rintro _ wd ⟨F3, rfl, hA, hF⟩
   refine ⟨vi (comE m (1 + (g : Int)) (((upG g k) + (1 * (2 ^ Int.toNat k))) - (g : Int))), rfl, ?_⟩
   replace hS := (hS.to (hS.mem.stepA 0 rfl hA hF)).put (d := 53) (v := vi (comE m (1 + (g : Int)) (((upG g k) + (1 * (2 ^ Int.toNat k))) - (g : Int)))) (by decide)
   clear hF
   refine hS.ordV (l := [0, 1]) ?_
   refine St.ordF [0] [16] [0, 1, 5, 6, 7] (rest := []) hS hap <| segF [(54, vb (((comE m (1 + (g : Int)) (((upG g k) + (1 * (2 ^ Int.toNat k))) - (g : Int))) : Int) != 0))] [] trivial fun ac hS => ?_
   refine ord_nil ?_
   refine hS.condC (((comE m (1 + (g : Int)) (((upG g k) + (1 * (2 ^ Int.toNat k))) - (g : Int))) : Int) != 0) (fun hb4o hb4 => ?_) (fun hb4o hb4 => ?_)
   ·
    have hrf := hB.refuse (by omega) (by omega) hb4
    have hG := gr_3 (N := N) (g := g) (r := r) hbd hfit hrf.1
    refine hS.regS [0] [] fun _ => seg [(4, vi 4)] [(0, none)] [] trivial fun ac wd hS => ?_
    refine wp_ret ?_
    refine pop_then_ret ?_
    refine St.retC 0 hS (vi 4) [] trivial fun hw => ?_
    refine ⟨(comM m (1 + (g : Int)) (((upG g k) + (1 * (2 ^ Int.toNat k))) - (g : Int))), q, Q, F3, retd (vint ?_), ?_, ?_, ?_, ?_, ?_, (hw.res 0), hw.frA⟩
    all_goals (first | exact hG.1 | (rw [hG.2.1, hG.2.2]; first | exact hB | exact hrf.2.1 | assumption) | (rw [hG.2.1]; first | exact hfl | exact fill_full (fill_st (x := upG g k) (e9 ▸ i2) (by assumption) (by omega) rfl)) | exact fun _ _ => Iff.rfl | exact fun _ => rfl | exact KeepT.refl _ _ | exact fun p t _ y _ _ => by rw [hrf.2.2] | exact fun j t => (RelE.tk (by assumption) j t).trans (i3 j t) | exact fun h => absurd hG.1.symm h | exact i4.trans (by assumption) (fun j t => (i3 j t).2))
   ·
    have hgw := hB.grow (x := upG g k + 1 * 2 ^ Int.toNat k) (by omega) (by omega) hb4 (by omega)
    have hG := gr_4 (N := N) (g := g) (r := r) hbd hfit hgw.1
    refine wp_skip ?_
    refine pop_then ?_
    refine wp_region_seq ?_
    refine hS.opsC 8 [0, 0, 0, 100, 0, 0, 20, 20] [0, 1, 5, 7] fun _ => seg [(58, .agg #[pt b 0, vi 0, vi 256]), (62, vu ((upG g k) + (1 * (2 ^ Int.toNat k))))] [(0, none), (1, none)] [.p (fit .u64 ((upG g k) + (1 * (2 ^ Int.toNat k)))), .p (fit .i64 ((upG g k) + (1 * (2 ^ Int.toNat k)))), .e bb, .p (0 ≤ 5 ∧ 5 < 12), .e bb, .p (0 ≤ 4 ∧ 4 < 12), .e bb, .p (0 ≤ 3 ∧ 3 < 12)] ⟨fit_u64 (by omega), fit_i64 (by omega), (by decide), (by decide), (by decide), trivial⟩ fun ac wd hS => ?_
    refine hS.callC 58 #[.agg #[pt b 0, vi 0, vi 256], vi 96, vi 8, vu ((upG g k) + (1 * (2 ^ Int.toNat k)))] (vw_Store b F3 (comM m (1 + (g : Int)) (((upG g k) + (1 * (2 ^ Int.toNat k))) - (g : Int))) 0 256 96 8 ((upG g k) + (1 * (2 ^ Int.toNat k))) _ (hS.mem.res 0) (by first | assumption | omega | (simp_all; done) | (simp_all; omega))) ?_
    rintro _ wd ⟨F5, rfl, hA, hF⟩
    refine ⟨vi (vstE (comM m (1 + (g : Int)) (((upG g k) + (1 * (2 ^ Int.toNat k))) - (g : Int))) 0 256 96 8), rfl, ?_⟩
    replace hS := (hS.to (hS.mem.stepA 0 rfl hA hF)).put (d := 63) (v := vi (vstE (comM m (1 + (g : Int)) (((upG g k) + (1 * (2 ^ Int.toNat k))) - (g : Int))) 0 256 96 8)) (by decide)
    clear hF
    refine list_nil_seq ?_
    refine wp_seq ?_
    refine wp_block ?_
    refine St.loopC (σ := Int × (Nat → Prop) × AM × List Tg × (Nat → List Int)) (fun (x : Int × (Nat → Prop) × AM × List Tg × (Nat → List Int)) => match x with | (x5, Fx, mx, qx, Qx) => ⟨[(0, [], pt bb 0), (1, [], vi k), (5, [], vi x5), (7, [], vi (upG g k))], [(1, .fn 0 64 dbT), (bb, .fn 0 12 (roF [pt b 0, vi 1, vi ((N : Nat) : Int), pt b 0, vi 0, vi 256, pt b 0, vi 0, vi 88, pt b 0, vi 257, vi ((N : Nat) : Int)]))], [arR b Fx mx], (0 ≤ x5 ∧ x5 ≤ upG g k) ∧ (Bdy mx N (Int.toNat (upG g k + 1 * 2 ^ Int.toNat k)) (if r ≤ 0 then -1 else r - 1) qx Qx) ∧ (∀ j, (gtD qx j).1 = 0 ↔ Int.toNat x5 ≤ j) ∧ (∀ (j : Nat) (t : Int), gtD qx j = (3, t) ↔ gtD q j = (3, t)) ∧ (KeepT m mx q) ∧ True, Int.toNat (upG g k - x5)⟩) ((g : Int), F5, (vstM (comM m (1 + (g : Int)) (((upG g k) + (1 * (2 ^ Int.toNat k))) - (g : Int))) 0 256 96 8 ((upG g k) + (1 * (2 ^ Int.toNat k)))), q, Q) ⟨(by omega), (by exact hgw.2.1), (by exact fill_0 hB hfl), (by exact fun _ _ => Iff.rfl), (by exact hgw.2.2), trivial⟩ hS ?_
    clear hS
    rintro ⟨x5, Fx, mx, qx, Qx⟩ ⟨i0, i1, i2, i3, i4, -⟩ ac wd hS
    replace i0 : 0 ≤ x5 ∧ x5 ≤ upG g k := i0
    replace i1 : Bdy mx N (Int.toNat (upG g k + 1 * 2 ^ Int.toNat k)) (if r ≤ 0 then -1 else r - 1) qx Qx := i1
    replace i2 : ∀ j, (gtD qx j).1 = 0 ↔ Int.toNat x5 ≤ j := i2
    replace i3 : ∀ (j : Nat) (t : Int), gtD qx j = (3, t) ↔ gtD q j = (3, t) := i3
    replace i4 : KeepT m mx q := i4
    refine wp_seq ?_
    refine hS.regS [0, 0, 0] [0, 1, 5, 7] fun _ => seg [(66, vb (decide ((x5 : Int) < (upG g k))))] [(0, none), (1, none)] [] trivial fun ac wd hS => ?_
    refine hS.condC (decide ((x5 : Int) < (upG g k))) (fun hb6o hb6 => ?_) (fun hb6o hb6 => ?_)
    ·
     have hhr := hor_rng (x := x5) (by omega)
     have hbl := blen_bd9 (upG g k - x5)
     refine wp_skip ?_
     refine pop_then ?_
     refine wp_block ?_
     refine wp_region_seq ?_
     refine hS.opsC 3 [0, fx 0 (vi (hor x5)), 20] [0, 1, 5, 7] fun _ => seg [(69, vu (hor x5))] [(0, none), (1, none)] [.p (fit .u64 (hor x5)), .p ((vi (ior .i64 x5 1024) : Value) = vi (hor x5))] ⟨fit_u64 (by omega), (vint (horI (by omega))), trivial⟩ fun ac wd hS => ?_
     refine hS.call0 75 #[vu (hor x5)] 70 (bits_TzU (hor x5) _ (hS.mem.get 0 1 (.fn 0 64 dbT)) (by first | assumption | omega | (simp_all; done) | (simp_all; omega))) fun ac wd hS => ?_
     refine hS.opsC 4 [0, 0, 20, 20] [0, 1, 5, 7, 70] fun _ => seg [(74, vu ((upG g k) - x5))] [(0, none), (1, none)] [.p (fit .u64 ((upG g k) - x5)), .p (fit .i64 ((upG g k) - x5))] ⟨fit_u64 (by omega), fit_i64 (by omega), trivial⟩ fun ac wd hS => ?_
     refine hS.call0 76 #[vu ((upG g k) - x5)] 75 (bits_LenU ((upG g k) - x5) _  (by first | assumption | omega | (simp_all; done) | (simp_all; omega)) (by first | assumption | omega | (simp_all; done) | (simp_all; omega))) fun ac wd hS => ?_
     refine hS.opsC 3 [20, 0, 0] [0, 1, 5, 7] fun _ => seg [(8, vi (imin ((tz (Int.toNat (hor x5)) : Nat) : Int) ((blen ((upG g k) - x5)) - 1)))] [(0, none), (1, none)] [.p (fit .i64 ((blen ((upG g k) - x5)) - 1))] ⟨fit_i64 (by omega), trivial⟩ fun ac wd hS => ?_
     refine list_nil_seq ?_
     obtain ⟨kk, kk_e⟩ : ∃ q_ : Int, q_ = (imin ((tz (Int.toNat (hor x5)) : Nat) : Int) ((blen ((upG g k) - x5)) - 1)) := ⟨_, rfl⟩
     replace hS := hS.fix 8 (vi kk) (show (vi (imin ((tz (Int.toNat (hor x5)) : Nat) : Int) ((blen ((upG g k) - x5)) - 1)) : Value) = vi kk by rw [kk_e])
     have hkk : kk = kkI x5 (upG g k) := kk_e
     clear kk_e
     obtain ⟨hk1, hk2, hk3, hk4⟩ := kk_facts (x := x5) (y := upG g k) (by omega) (by omega) (by omega)
     rw [← hkk] at hk1 hk2 hk3 hk4
     have hpk := pw_bd (k := kk) ⟨hk1, hk2⟩
     have hfl4 := fill_le i0.1 (by omega) hk4
     clear hkk
     refine wp_region_seq ?_
     refine hS.opsC 3 [0, 0, 0] [0, 1, 5, 7, 8] fun _ => seg [(78, pt bb 0), (79, vi x5), (80, vi kk)] [(0, none), (1, none)] [] trivial fun ac wd hS => ?_
     refine hS.callC 70 #[pt bb 0, vi x5, vi kk] (bu_release b Fx mx bb N x5 kk (Int.toNat (upG g k + 1 * 2 ^ Int.toNat k)) (if r ≤ 0 then -1 else r - 1) qx Qx _ (hS.mem.res 0) (hS.mem.get 1 bb (.fn 0 12 (roF [pt b 0, vi 1, vi ((N : Nat) : Int), pt b 0, vi 0, vi 256, pt b 0, vi 0, vi 88, pt b 0, vi 257, vi ((N : Nat) : Int)]))) (hS.mem.nF (g := bb) (r := arR b Fx mx) 1 0) (by exact i1) (by first | assumption | omega | (simp_all; done) | (simp_all; omega)) (by first | assumption | omega | (simp_all; done) | (simp_all; omega)) (by first | exact fill_rel i2 (by omega) hk3 (by omega) | exact fill_rel (e9 ▸ i2) hk10.2 huf.2.2.1 (fill_fit (by omega)))) ?_
     rintro _ wd ⟨mo7, q28, Q29, F10, rfl, hB211, hE212, hK213, hA, hF⟩
     refine ⟨.tuple #[], rfl, ?_⟩
     replace hS := (hS.to (hS.mem.stepA 0 rfl hA hF)).put (d := 81) (v := .tuple #[]) (by decide)
     clear hF
     refine list_nil_seq ?_
     refine hS.regC [0, 0, 20, 20, 0] [0, 1, 7] fun _ => seg [(5, vi (x5 + (1 * (2 ^ Int.toNat kk))))] [(0, none), (1, none)] [.p (fit .i64 (x5 + (1 * (2 ^ Int.toNat kk)))), .p ((0 : Int) ≤ kk ∧ IntKind.i64.wrap (1 * 2 ^ (min (Int.toNat kk) 64)) = (1 * (2 ^ Int.toNat kk)))] ⟨fit_i64 (by omega), shl2_i64 (by omega) (by omega) (by exact pgsN_sh (by omega)), trivial⟩ fun ac wd hS => ?_
     refine pop_block ?_
     exact pop_then (hS.next ((x5 + (1 * (2 ^ Int.toNat kk))), F10, mo7, q28, Q29) ⟨(by first | omega | assumption | (simp; done) | (simp; omega)), (by assumption), (by exact fill_st i2 (by assumption) i0.1 rfl), (by exact fun j t => (RelE.tk (by assumption) j t).trans (i3 j t)), (by exact i4.trans (by assumption) (fun j t => (i3 j t).2)), trivial⟩ (by dsimp only; omega))
    ·
     have e9 : x5 = upG g k := by omega
     refine wp_exit ?_
     refine pop_then_exit ?_
     refine pop_then_exit ?_
     refine pop_block_hit ?_
     refine pop_then ?_
     refine wp_region_seq ?_
     refine hS.opsC 3 [0, 0, 0] [] fun _ => seg [(86, pt bb 0), (87, vi (upG g k)), (88, vi k)] [(0, none), (1, none)] [] trivial fun ac wd hS => ?_
     refine hS.callC 70 #[pt bb 0, vi (upG g k), vi k] (bu_release b Fx mx bb N (upG g k) k (Int.toNat (upG g k + 1 * 2 ^ Int.toNat k)) (if r ≤ 0 then -1 else r - 1) qx Qx _ (hS.mem.res 0) (hS.mem.get 1 bb (.fn 0 12 (roF [pt b 0, vi 1, vi ((N : Nat) : Int), pt b 0, vi 0, vi 256, pt b 0, vi 0, vi 88, pt b 0, vi 257, vi ((N : Nat) : Int)]))) (hS.mem.nF (g := bb) (r := arR b Fx mx) 1 0) (by exact i1) (by first | assumption | omega | (simp_all; done) | (simp_all; omega)) (by first | assumption | omega | (simp_all; done) | (simp_all; omega)) (by first | exact fill_rel i2 (by omega) hk3 (by omega) | exact fill_rel (e9 ▸ i2) hk10.2 huf.2.2.1 (fill_fit (by omega)))) ?_
     rintro _ wd ⟨mo14, q215, Q216, F17, rfl, hB218, hE219, hK220, hA, hF⟩
     refine ⟨.tuple #[], rfl, ?_⟩
     replace hS := (hS.to (hS.mem.stepA 0 rfl hA hF)).put (d := 89) (v := .tuple #[]) (by decide)
     clear hF
     refine list_nil_seq ?_
     refine hS.regS [0] [] fun _ => seg [(4, vi 0)] [(0, none)] [] trivial fun ac wd hS => ?_
     refine wp_ret ?_
     refine St.retC 0 hS (vi 0) [] trivial fun hw => ?_
     refine ⟨mo14, q215, Q216, F17, retd (vint ?_), ?_, ?_, ?_, ?_, ?_, (hw.res 0), hw.frA⟩
     all_goals (first | exact hG.1 | (rw [hG.2.1, hG.2.2]; first | exact hB | exact hrf.2.1 | assumption) | (rw [hG.2.1]; first | exact hfl | exact fill_full (fill_st (x := upG g k) (e9 ▸ i2) (by assumption) (by omega) rfl)) | exact fun _ _ => Iff.rfl | exact fun _ => rfl | exact KeepT.refl _ _ | exact fun p t _ y _ _ => by rw [hrf.2.2] | exact fun j t => (RelE.tk (by assumption) j t).trans (i3 j t) | exact fun h => absurd hG.1.symm h | exact i4.trans (by assumption) (fun j t => (i3 j t).2))

end Go.Proofs.YtojjkjedcafpeaaGreatDoor.K

/-
  Walks, printed by w2.py.
-/
namespace Go.Proofs.YtojjkjedcafpeaaGreatDoor.K
set_option linter.unusedVariables false
set_option linter.unusedSimpArgs false

set_option maxRecDepth 100000 in
set_option maxHeartbeats 1000000 in
theorem bu_find (b : Nat) (F : Nat → Prop) (m : AM) (bb : Nat) (N : Nat) (k : Int) (g : Nat) (r : Int) (q : List Tg) (Q : Nat → List Int) (w : World) (hr : (arR b F m).R w) (hh0 : HE.holds w bb (.fn 0 12 (roF [pt b 0, vi 1, vi ((N : Nat) : Int), pt b 0, vi 0, vi 256, pt b 0, vi 0, vi 88, pt b 0, vi 257, vi ((N : Nat) : Int)]))) (hB : Bdy m N g r q Q) (hk : 0 ≤ k ∧ k ≤ 10) :
    Calls Tryz.prog 71 #[pt bb 0, vi k] w fun e w' => e = .returned (.tuple #[vi ((fdK Q k).1), vi ((fdK Q k).2.1), vb ((fdK Q k).2.2)]) ∧ Fr w w' no no := by
 refine enter (args := [pt bb 0, vi k]) (D := no) (A := []) Tryz.func71 rfl 33 rfl [(bb, .fn 0 12 (roF [pt b 0, vi 1, vi ((N : Nat) : Int), pt b 0, vi 0, vi 256, pt b 0, vi 0, vi 88, pt b 0, vi 257, vi ((N : Nat) : Int)]))] (WS.startL ⟨⟨rfl, hh0⟩, trivial⟩) fun ac hS => ?_
 refine hS.regS [0, 0, 0] [0, 1] fun _ => seg [] [(0, none)] [] trivial fun ac wd hS => ?_
 refine wp_seq ?_
 refine hS.regS [0, 0] [0] fun _ => seg [(7, vi k)] [(0, none)] [] trivial fun ac wd hS => ?_
 refine wp_block ?_
 refine St.loopC (σ := Int) (fun (x7 : Int) => ⟨[(0, [], pt bb 0), (7, [], vi x7)], [(bb, .fn 0 12 (roF [pt b 0, vi 1, vi ((N : Nat) : Int), pt b 0, vi 0, vi 256, pt b 0, vi 0, vi 88, pt b 0, vi 257, vi ((N : Nat) : Int)]))], [], (0 ≤ x7 ∧ x7 ≤ 11) ∧ (fdK Q x7 = fdK Q k) ∧ True, Int.toNat (11 - x7)⟩) k ⟨(by omega), (by rfl), trivial⟩ hS ?_
 clear hS
 rintro x7 ⟨i0, i1, -⟩ ac wd hS
 replace i0 : 0 ≤ x7 ∧ x7 ≤ 11 := i0
 replace i1 : fdK Q x7 = fdK Q k := i1
 refine wp_seq ?_
 refine hS.regS [0, 0] [0, 7] fun _ => seg [(12, vb (decide ((x7 : Int) ≤ 10)))] [(0, none)] [] trivial fun ac wd hS => ?_
 refine hS.condC (decide ((x7 : Int) ≤ 10)) (fun hb1o hb1 => ?_) (fun hb1o hb1 => ?_)
 ·
  have hhb := hB.hdB (k := x7) (by omega)
  refine wp_skip ?_
  refine pop_then ?_
  refine wp_seq ?_
  refine wp_block ?_
  refine wp_region_seq ?_
  refine hS.opsC 5 [0, 0, 0, 0, 0] [0, 7] fun _ => seg [(19, .agg #[pt b 0, vi 0, vi 88]), (20, vi x7)] [(0, none)] [.e bb, .p (0 ≤ 8 ∧ 8 < 12), .e bb, .p (0 ≤ 7 ∧ 7 < 12), .e bb, .p (0 ≤ 6 ∧ 6 < 12)] ⟨(by decide), (by decide), (by decide), trivial⟩ fun ac wd hS => ?_
  refine hS.call0 114 #[.agg #[pt b 0, vi 0, vi 88], vi x7] 21 (ls_First b F m 0 88 x7 (Q (Int.toNat x7)) _ (Res.keep hr hS.mem.fr) (by first | assumption | omega | (simp_all; done) | (simp_all; omega)) (by first | assumption | omega | (simp_all; done) | (simp_all; omega)) (by exact hB.bm.chI (by omega)) (by exact hB.bm.psI (by omega))) fun ac wd hS => ?_
  refine hS.opsC 5 [0, 0, 0, 0, 0] [0, 7] fun _ => seg [(8, vi (List.getD (Q (Int.toNat x7)) 0 0)), (9, vb ((List.getD (Q (Int.toNat x7)) 0 0 : Int) != 0))] [(0, none)] [] trivial fun ac wd hS => ?_
  refine list_nil_seq ?_
  refine hS.regS [0] [0, 7, 8] fun _ => seg [(24, vb ((List.getD (Q (Int.toNat x7)) 0 0 : Int) != 0))] [(0, none)] [] trivial fun ac wd hS => ?_
  refine hS.condC ((List.getD (Q (Int.toNat x7)) 0 0 : Int) != 0) (fun hb2o hb2 => ?_) (fun hb2o hb2 => ?_)
  ·
   have hD := i1.symm.trans (fdK_yes (Q := Q) (k := x7) (by omega) hb2)
   refine hS.regS [0, 20, 0, 0, 0, 0, 20, 0, 0, 0, 0] [] fun _ => seg [(4, vi (((List.getD (Q (Int.toNat x7)) 0 0) / 4096) - 1)), (5, vi x7), (6, vb true)] [] [.p (fit .i64 (((List.getD (Q (Int.toNat x7)) 0 0) / 4096) - 1)), .e bb, .p (0 ≤ 1 ∧ 1 < 12), .p ((4096 : Int) ≠ 0 ∧ IntKind.i64.wrap (Int.tdiv (List.getD (Q (Int.toNat x7)) 0 0) 4096) = (List.getD (Q (Int.toNat x7)) 0 0) / 4096)] ⟨fit_i64 (by omega), (by decide), quo2 (by omega) (by omega) (by omega), trivial⟩ fun ac wd hS => ?_
   refine wp_ret ?_
   refine pop_block_ret ?_
   refine pop_then_ret ?_
   refine pop_then_ret ?_
   refine pop_block_ret ?_
   refine pop_then_ret ?_
   refine St.retC 0 hS (.tuple #[vi (((List.getD (Q (Int.toNat x7)) 0 0) / 4096) - 1), vi x7, vb true]) [] trivial fun hw => ?_
   refine ⟨retd (tuple3 (vint ?_) (vint ?_) (vbool ?_)), hw.fr0⟩
   all_goals ((rw [hD]))
  ·
   have hD9 := fdK_no (Q := Q) (k := x7) (by omega) (by have h9_ := hb2; omega)
   refine wp_skip ?_
   refine pop_block ?_
   refine pop_then ?_
   refine hS.regC [0, 20, 0] [0] fun _ => seg [(7, vi (x7 + 1))] [(0, none)] [.p (fit .i64 (x7 + 1))] ⟨fit_i64 (by omega), trivial⟩ fun ac wd hS => ?_
   exact pop_then (hS.next (x7 + 1) ⟨(by first | omega | assumption | (simp; done) | (simp; omega)), (by exact hD9.symm.trans i1), trivial⟩ (by dsimp only; omega))
 ·
  have hD := i1.symm.trans (fdK_end (Q := Q) (show (10 : Int) < x7 by omega))
  refine wp_exit ?_
  refine pop_then_exit ?_
  refine pop_then_exit ?_
  refine pop_block_hit ?_
  refine pop_then ?_
  refine hS.regS [0, 0, 0] [] fun _ => seg [(4, vi 0), (5, vi 0), (6, vb false)] [] [] trivial fun ac wd hS => ?_
  refine wp_ret ?_
  refine St.retC 0 hS (.tuple #[vi 0, vi 0, vb false]) [] trivial fun hw => ?_
  refine ⟨retd (tuple3 (vint ?_) (vint ?_) (vbool ?_)), hw.fr0⟩
  all_goals ((rw [hD]))

theorem bu_findP (b : Nat) (F : Nat → Prop) (m : AM) (bb : Nat) (N : Nat) (k : Int) (g : Nat) (r : Int) (q : List Tg) (Q : Nat → List Int) (w : World) (hr : (arR b F m).R w) (hh0 : HE.holds w bb (.fn 0 12 (roF [pt b 0, vi 1, vi ((N : Nat) : Int), pt b 0, vi 0, vi 256, pt b 0, vi 0, vi 88, pt b 0, vi 257, vi ((N : Nat) : Int)]))) (hB : Bdy m N g r q Q) (hk : 0 ≤ k ∧ k ≤ 10) :
    Calls Tryz.prog 71 #[pt bb 0, vi k] w fun e w' => ∃ (fi : Int) (fk : Int) (fo : Bool), e = .returned (.tuple #[vi fi, vi fk, vb fo]) ∧ FdP q k fi fk fo ∧ Fr w w' no no := by
 refine (bu_find b F m bb N k g r q Q w hr hh0 hB hk).mono ?_
 rintro e w' ⟨rfl, hF⟩
 exact ⟨_, _, _, rfl, hB.fdP hk, hF⟩

end Go.Proofs.YtojjkjedcafpeaaGreatDoor.K

/-
  Walks, printed by w2.py.
-/
namespace Go.Proofs.YtojjkjedcafpeaaGreatDoor.K
set_option linter.unusedVariables false
set_option linter.unusedSimpArgs false

set_option maxRecDepth 100000 in
set_option maxHeartbeats 1000000 in
theorem bu_Alloc (b : Nat) (F : Nat → Prop) (m : AM) (bb : Nat) (N : Nat) (k : Int) (g : Nat) (r : Int) (q : List Tg) (Q : Nat → List Int) (w : World) (hr : (arR b F m).R w) (hh0 : HE.holds w 1 (.fn 0 64 dbT)) (hh1 : HE.holds w bb (.fn 0 12 (roF [pt b 0, vi 1, vi ((N : Nat) : Int), pt b 0, vi 0, vi 256, pt b 0, vi 0, vi 88, pt b 0, vi 257, vi ((N : Nat) : Int)]))) (hf0 : ¬ F 1) (hf1 : ¬ F bb) (hB : Bdy m N g r q Q) (hfl : FullG g q) :
    Calls Tryz.prog 21 #[pt bb 0, vi k] w fun e w' => ∃ (ao_ : Int) (ae_ : Int) (g2 : Nat) (r2 : Int) (mo : AM) (q2 : List Tg) (Q2 : Nat → List Int) (F' : Nat → Prop), e = .returned (.tuple #[vi ao_, vi ae_]) ∧ Bdy mo N g2 r2 q2 Q2 ∧ FullG g2 q2 ∧ AlP N g r q k ao_ ae_ g2 r2 q2 ∧ KeepT m mo q ∧ (arR b F' mo).R w' ∧ Fr w w' F F' := by
 refine enter (args := [pt bb 0, vi k]) (D := F) (A := [arR b F m]) Tryz.func21 rfl 88 rfl [(1, .fn 0 64 dbT), (bb, .fn 0 12 (roF [pt b 0, vi 1, vi ((N : Nat) : Int), pt b 0, vi 0, vi 256, pt b 0, vi 0, vi 88, pt b 0, vi 257, vi ((N : Nat) : Int)]))] (WS.startA (r := arR b F m) hr ⟨⟨rfl, hh0⟩, ⟨rfl, hh1⟩, trivial⟩ ⟨hf0, hf1, trivial⟩) fun ac hS => ?_
 refine hS.regS [0, 0] [0, 1] fun _ => seg [] [(0, none), (1, none)] [] trivial fun ac wd hS => ?_
 refine wp_seq ?_
 refine wp_block ?_
 refine hS.regS [0, 0, 0] [0, 1] fun _ => seg [(10, vb false)] [(0, none), (1, none)] [] trivial fun ac wd hS => ?_
 refine hS.condF ?_
 refine hS.regS [0, 0, 0, 3, 3, 80, 0] [0, 1] fun _ => seg [(13, vb ((decide ((k : Int) < 0)) || (decide ((10 : Int) < k))))] [(0, none), (1, none)] [] trivial fun ac wd hS => ?_
 refine hS.condC ((decide ((k : Int) < 0)) || (decide ((10 : Int) < k))) (fun hb1o hb1 => ?_) (fun hb1o hb1 => ?_)
 ·
  have hbd : gwBad k = true := hb1o
  refine hS.regS [0, 0] [] fun _ => seg [(4, vi 0), (5, vi 2)] [(0, none)] [] trivial fun ac wd hS => ?_
  refine wp_ret ?_
  refine pop_block_ret ?_
  refine pop_then_ret ?_
  refine St.retC 0 hS (.tuple #[vi 0, vi 2]) [] trivial fun hw => ?_
  refine ⟨0, 2, g, r, m, q, Q, F, retd rfl, ?_, ?_, ?_, ?_, (hw.res 0), hw.frA⟩
  all_goals (first | rfl | exact hB | exact hfl | exact hFi.1 | exact hFb.of hFi.2.1 | exact .inl ⟨hbd, rfl, rfl, rfl, rfl, rfl⟩ | exact KeepT.refl _ _ | assumption | exact .inr (.inl ⟨hbd, FdP.no (by assumption) hfo, hge, rfl, rfl, rfl, rfl, hS214 hge⟩) | exact .inr (.inr ⟨hbd, rfl, gb, rb, qb, i9, kk9, hBa, hBb.tl, hBb.nf, hFb, hFn, by unfold bpA; omega, rfl, rfl, hFi.2.1⟩) | exact i2.trans hFi.2.2 (fun j t => (hBa.tk j t).2))
 ·
  have hbd : gwBad k = false := hb1o
  have hk10 := gr_bad hbd
  refine wp_skip ?_
  refine pop_block ?_
  refine pop_then ?_
  refine wp_region_seq ?_
  refine hS.opsC 2 [0, 0] [0, 1] fun _ => seg [(21, pt bb 0), (22, vi k)] [(0, none), (1, none)] [] trivial fun ac wd hS => ?_
  refine hS.callC 71 #[pt bb 0, vi k] (bu_findP b F m bb N k g r q Q _ (hS.mem.res 0) (hS.mem.get 1 bb (.fn 0 12 (roF [pt b 0, vi 1, vi ((N : Nat) : Int), pt b 0, vi 0, vi 256, pt b 0, vi 0, vi 88, pt b 0, vi 257, vi ((N : Nat) : Int)]))) (by assumption) (by exact gr_bad hbd)) ?_
  rintro _ wd ⟨fi2, fk3, fo4, rfl, hfd5, hF⟩
  refine ⟨.tuple #[vi fi2, vi fk3, vb fo4], rfl, ?_⟩
  replace hS := (hS.to (hS.mem.keep0 hF)).put (d := 23) (v := .tuple #[vi fi2, vi fk3, vb fo4]) (by decide)
  clear hF
  refine hS.opsC 7 [0, 0, 0, 0, 0, 0, 0] [0, 1] fun _ => seg [(6, vi fi2), (7, vi fk3), (8, vb fo4)] [(0, none), (1, none)] [] trivial fun ac wd hS => ?_
  refine list_nil_seq ?_
  refine wp_seq ?_
  refine hS.regS [0, 0] [0, 1, 6, 7] fun _ => seg [(28, vb (!fo4))] [(0, none), (1, none)] [] trivial fun ac wd hS => ?_
  refine hS.condC (!fo4) (fun hb6o hb6 => ?_) (fun hb6o hb6 => ?_)
  ·
   have hfo := bnot_t hb6o
   refine wp_seq ?_
   refine wp_region_seq ?_
   refine hS.opsC 2 [0, 0] [0, 1] fun _ => seg [(29, pt bb 0), (30, vi k)] [(0, none), (1, none)] [] trivial fun ac wd hS => ?_
   refine hS.callC 23 #[pt bb 0, vi k] (bu_Grow b F m bb N k g r q Q _ (hS.mem.res 0) (hS.mem.get 0 1 (.fn 0 64 dbT)) (hS.mem.get 1 bb (.fn 0 12 (roF [pt b 0, vi 1, vi ((N : Nat) : Int), pt b 0, vi 0, vi 256, pt b 0, vi 0, vi 88, pt b 0, vi 257, vi ((N : Nat) : Int)]))) (hS.mem.nF (g := 1) (r := arR b F m) 0 0) (hS.mem.nF (g := bb) (r := arR b F m) 1 0) (by exact hB) (by exact hfl)) ?_
   rintro _ wd ⟨mo7, q28, Q29, F10, rfl, hB211, hF212, hT213, hS214, hK215, hA, hF⟩
   refine ⟨vi (gwE N g r k), rfl, ?_⟩
   replace hS := (hS.to (hS.mem.stepA 0 rfl hA hF)).put (d := 31) (v := vi (gwE N g r k)) (by decide)
   clear hF
   refine hS.opsC 1 [0] [0, 1] fun _ => seg [(9, vi (gwE N g r k))] [(0, none), (1, none)] [] trivial fun ac wd hS => ?_
   refine list_nil_seq ?_
   refine hS.regS [0, 0] [0, 1, 9] fun _ => seg [(33, vb (((gwE N g r k) : Int) != 0))] [(0, none), (1, none)] [] trivial fun ac wd hS => ?_
   refine hS.condC (((gwE N g r k) : Int) != 0) (fun hb16o hb16 => ?_) (fun hb16o hb16 => ?_)
   ·
    have hge : gwE N g r k ≠ 0 := hb16
    refine hS.regS [0, 0, 0] [] fun _ => seg [(4, vi 0), (5, vi (gwE N g r k))] [(0, none)] [] trivial fun ac wd hS => ?_
    refine wp_ret ?_
    refine pop_then_ret ?_
    refine pop_then_ret ?_
    refine St.retC 0 hS (.tuple #[vi 0, vi (gwE N g r k)]) [] trivial fun hw => ?_
    refine ⟨0, (gwE N g r k), (gwG N g r k), (gwR N g r k), mo7, q28, Q29, F10, retd rfl, ?_, ?_, ?_, ?_, (hw.res 0), hw.frA⟩
    all_goals (first | rfl | exact hB | exact hfl | exact hFi.1 | exact hFb.of hFi.2.1 | exact .inl ⟨hbd, rfl, rfl, rfl, rfl, rfl⟩ | exact KeepT.refl _ _ | assumption | exact .inr (.inl ⟨hbd, FdP.no (by assumption) hfo, hge, rfl, rfl, rfl, rfl, hS214 hge⟩) | exact .inr (.inr ⟨hbd, rfl, gb, rb, qb, i9, kk9, hBa, hBb.tl, hBb.nf, hFb, hFn, by unfold bpA; omega, rfl, rfl, hFi.2.1⟩) | exact i2.trans hFi.2.2 (fun j t => (hBa.tk j t).2))
   ·
    have hge : gwE N g r k = 0 := hb16
    refine wp_skip ?_
    refine pop_then ?_
    refine wp_region_lit ?_
    refine hS.opsC 2 [0, 0] [0, 1] fun _ => seg [(36, pt bb 0), (37, vi k)] [(0, none), (1, none)] [] trivial fun ac wd hS => ?_
    refine hS.callC 71 #[pt bb 0, vi k] (bu_findP b F10 mo7 bb N k (gwG N g r k) (gwR N g r k) q28 Q29 _ (hS.mem.res 0) (hS.mem.get 1 bb (.fn 0 12 (roF [pt b 0, vi 1, vi ((N : Nat) : Int), pt b 0, vi 0, vi 256, pt b 0, vi 0, vi 88, pt b 0, vi 257, vi ((N : Nat) : Int)]))) (by assumption) (by exact gr_bad hbd)) ?_
    rintro _ wd ⟨fi17, fk18, fo19, rfl, hfd20, hF⟩
    refine ⟨.tuple #[vi fi17, vi fk18, vb fo19], rfl, ?_⟩
    replace hS := (hS.to (hS.mem.keep0 hF)).put (d := 38) (v := .tuple #[vi fi17, vi fk18, vb fo19]) (by decide)
    clear hF
    refine hS.opsC 6 [0, 0, 0, 0, 0, 0] [0, 1] fun _ => seg [(6, vi fi17), (7, vi fk18)] [(0, none), (1, none)] [] trivial fun ac wd hS => ?_
    refine list_nil ?_
    refine pop_then ?_
    have hBg := hB211
    have hFg := hF212
    have hTg := hT213
    have hKg := hK215
    have hNo : NoF q (Int.toNat k) := FdP.no (by assumption) hfo
    have hGx := grown_must hB hbd hge hBg hFg hTg
    obtain ⟨i9, kk9, e6_, e7_, hFd⟩ := FdP.must (by assumption) hGx
    obtain ⟨gb, rb, qb, Qb, hBb, hFb, hFn, hBa, hKb⟩ : ∃ (gb : Nat) (rb : Int) (qb : List Tg) (Qb : Nat → List Int), Bdy mo7 N gb rb qb Qb ∧ FullG gb qb ∧ Fnd qb (Int.toNat k) i9 kk9 ∧ BaseP N g r q k gb rb qb ∧ KeepT m mo7 q := ⟨_, _, _, _, hBg, hFg, hFd, .inr ⟨hNo, hge, rfl, rfl, hTg⟩, hKg⟩
    have hf9 := hBb.fnd hFn
    rw [e6_, e7_] at hS
    refine St.ordBeginS [(0, 1), (1, 1), (2, 1), (3, 1), (4, 1), (5, 1), (6, 1), (7, 0), (8, 0)] [(1, .fn 0 64 dbT), (bb, .fn 0 12 (roF [pt b 0, vi 1, vi ((N : Nat) : Int), pt b 0, vi 0, vi 256, pt b 0, vi 0, vi 88, pt b 0, vi 257, vi ((N : Nat) : Int)]))] [0, 1] hS fun wd hS => ?_
    have hap := hS.mem.pairs (Hf := [(1, .fn 0 64 dbT), (bb, .fn 0 12 (roF [pt b 0, vi 1, vi ((N : Nat) : Int), pt b 0, vi 0, vi 256, pt b 0, vi 0, vi 88, pt b 0, vi 257, vi ((N : Nat) : Int)]))]) (l := [0, 1])
    refine St.ordF [0, 0, 0, 100, 0, 0, 0] [0, 1, 2, 3, 4, 5, 6] [0, 1, 6, 7] (rest := [(7, 0), (8, 0)]) hS hap <| segF [(45, .agg #[pt b 0, vi 0, vi 88]), (46, vi ((kk9 : Nat) : Int)), (47, pt bb 0), (48, vi ((i9 : Nat) : Int))] [.e bb, .p (0 ≤ 8 ∧ 8 < 12), .e bb, .p (0 ≤ 7 ∧ 7 < 12), .e bb, .p (0 ≤ 6 ∧ 6 < 12)] ⟨(by decide), (by decide), (by decide), trivial⟩ fun ac hS => ?_
    refine hS.ordC 7 67 #[pt bb 0, vi ((i9 : Nat) : Int)] (bu_at bb b N ((i9 : Nat) : Int) _ (hS.mem.get 1 bb (.fn 0 12 (roF [pt b 0, vi 1, vi ((N : Nat) : Int), pt b 0, vi 0, vi 256, pt b 0, vi 0, vi 88, pt b 0, vi 257, vi ((N : Nat) : Int)]))) (by first | assumption | omega | (simp_all; done) | (simp_all; omega))) ?_
    rintro _ wd ⟨rfl, hF⟩
    refine ⟨vi ((1 + ((i9 : Nat) : Int)) * 4096), rfl, ?_⟩
    replace hS := (hS.to (hS.mem.keep0 hF)).put (d := 49) (v := vi ((1 + ((i9 : Nat) : Int)) * 4096)) (by decide)
    clear hF
    refine hS.ordV (l := [0, 1]) ?_
    refine hS.ordC 8 72 #[.agg #[pt b 0, vi 0, vi 88], vi ((kk9 : Nat) : Int), vi ((1 + ((i9 : Nat) : Int)) * 4096)] (ls_Remove b F10 mo7 0 88 ((kk9 : Nat) : Int) ((1 + ((i9 : Nat) : Int)) * 4096) (Qb (Int.toNat ((kk9 : Nat) : Int))) _ (hS.mem.res 0) (by first | assumption | omega | (simp_all; done) | (simp_all; omega)) (by first | assumption | omega | (simp_all; done) | (simp_all; omega)) (by exact hBb.bm.chI (by omega)) (by exact hBb.bm.psI (by omega))) ?_
    rintro _ wd ⟨F21, rfl, hA, hF⟩
    refine ⟨vi (lsrE (Qb (Int.toNat ((kk9 : Nat) : Int))) ((1 + ((i9 : Nat) : Int)) * 4096)), rfl, ?_⟩
    replace hS := (hS.to (hS.mem.stepA 0 rfl hA hF)).put (d := 50) (v := vi (lsrE (Qb (Int.toNat ((kk9 : Nat) : Int))) ((1 + ((i9 : Nat) : Int)) * 4096))) (by decide)
    clear hF
    refine hS.ordV (l := [0, 1]) ?_
    refine ord_nil ?_
    refine wp_seq ?_
    refine wp_block ?_
    refine St.loopC (σ := Int × (Nat → Prop) × AM × List Tg × List Tg × (Nat → List Int)) (fun (x : Int × (Nat → Prop) × AM × List Tg × List Tg × (Nat → List Int)) => match x with | (x7, Fx, mx, qa, qv, Qx) => ⟨[(0, [], pt bb 0), (1, [], vi k), (6, [], vi ((i9 : Nat) : Int)), (7, [], vi x7)], [(1, .fn 0 64 dbT), (bb, .fn 0 12 (roF [pt b 0, vi 1, vi ((N : Nat) : Int), pt b 0, vi 0, vi 256, pt b 0, vi 0, vi 88, pt b 0, vi 257, vi ((N : Nat) : Int)]))], [arR b Fx mx], (k ≤ x7 ∧ x7 ≤ 10) ∧ (AlI mx N gb rb qb qa qv Qx i9 (Int.toNat x7)) ∧ (KeepT m mx q) ∧ True, Int.toNat (x7 - k)⟩) (((kk9 : Nat) : Int), F21, (lsrM mo7 0 88 ((kk9 : Nat) : Int) (Qb (Int.toNat ((kk9 : Nat) : Int))) ((1 + ((i9 : Nat) : Int)) * 4096)), qb, (rlQ qb ((i9 : Nat) : Int) ((kk9 : Nat) : Int) (0 : Nat)), (updQ Qb kk9 (delL (Qb kk9) ((1 + ((i9 : Nat) : Int)) * 4096)))) ⟨(by omega), (by exact (AlI.zeroI hBb hFn.2.2.1 (by unfold bpA; omega)).1), (by exact hKb.trans (AlI.zeroI hBb hFn.2.2.1 (by unfold bpA; omega)).2 (fun j t => (hBa.tk j t).2)), trivial⟩ hS ?_
    clear hS
    rintro ⟨x7, Fx, mx, qa, qv, Qx⟩ ⟨i0, i1, i2, -⟩ ac wd hS
    replace i0 : k ≤ x7 ∧ x7 ≤ 10 := i0
    replace i1 : AlI mx N gb rb qb qa qv Qx i9 (Int.toNat x7) := i1
    replace i2 : KeepT m mx q := i2
    refine wp_seq ?_
    refine hS.regS [0, 0, 0] [0, 1, 6, 7] fun _ => seg [(53, vb (decide ((k : Int) < x7)))] [(0, none), (1, none)] [] trivial fun ac wd hS => ?_
    refine hS.condC (decide ((k : Int) < x7)) (fun hb22o hb22 => ?_) (fun hb22o hb22 => ?_)
    ·
     have hbs := i1.bds (by omega)
     refine wp_skip ?_
     refine pop_then ?_
     refine wp_block ?_
     refine hS.regS [0, 20, 0] [0, 1, 6] fun _ => seg [(7, vi (x7 - 1))] [(0, none), (1, none)] [.p (fit .i64 (x7 - 1))] ⟨fit_i64 (by omega), trivial⟩ fun ac wd hS => ?_
     refine St.ordBeginS [(0, 1), (1, 1), (2, 1), (3, 1), (4, 1), (5, 1), (6, 1), (7, 1), (8, 1), (9, 0)] [(1, .fn 0 64 dbT), (bb, .fn 0 12 (roF [pt b 0, vi 1, vi ((N : Nat) : Int), pt b 0, vi 0, vi 256, pt b 0, vi 0, vi 88, pt b 0, vi 257, vi ((N : Nat) : Int)]))] [0, 1] hS fun wd hS => ?_
     have hap := hS.mem.pairs (Hf := [(1, .fn 0 64 dbT), (bb, .fn 0 12 (roF [pt b 0, vi 1, vi ((N : Nat) : Int), pt b 0, vi 0, vi 256, pt b 0, vi 0, vi 88, pt b 0, vi 257, vi ((N : Nat) : Int)]))]) (l := [0, 1])
     refine St.ordF [0, 0, 0, 100, 0, 0, 20, 20, 0] [0, 1, 2, 3, 4, 5, 6, 7, 8] [0, 1, 6, 7] (rest := [(9, 0)]) hS hap <| segF [(59, .agg #[pt b 0, vi 257, vi ((N : Nat) : Int)]), (63, vi (((i9 : Nat) : Int) + (1 * (2 ^ Int.toNat (x7 - 1))))), (64, vi (x7 - 1))] [.p (fit .i64 (((i9 : Nat) : Int) + (1 * (2 ^ Int.toNat (x7 - 1))))), .p ((0 : Int) ≤ (x7 - 1) ∧ IntKind.i64.wrap (1 * 2 ^ (min (Int.toNat (x7 - 1)) 64)) = (1 * (2 ^ Int.toNat (x7 - 1)))), .e bb, .p (0 ≤ 11 ∧ 11 < 12), .e bb, .p (0 ≤ 10 ∧ 10 < 12), .e bb, .p (0 ≤ 9 ∧ 9 < 12)] ⟨fit_i64 (by omega), shl2_i64 (by omega) (by omega) (by exact pgsN_sh (by omega)), (by decide), (by decide), (by decide), trivial⟩ fun ac hS => ?_
     refine hS.ordC 9 69 #[.agg #[pt b 0, vi 257, vi ((N : Nat) : Int)], vi (((i9 : Nat) : Int) + (1 * (2 ^ Int.toNat (x7 - 1)))), vi (x7 - 1), v8 2] (tags_Lay_r b Fx mx 257 ((N : Nat) : Int) (((i9 : Nat) : Int) + (1 * (2 ^ Int.toNat (x7 - 1)))) (x7 - 1) 2 qa _ (hS.mem.res 0) (by exact i1.bm.tg) (by first | assumption | omega | (simp_all; done) | (simp_all; omega))) ?_
     rintro _ wd ⟨F23, rfl, hA, hF⟩
     refine ⟨vi (rlE qa (((i9 : Nat) : Int) + (1 * (2 ^ Int.toNat (x7 - 1)))) (x7 - 1) 2), rfl, ?_⟩
     replace hS := (hS.to (hS.mem.stepA 0 rfl hA hF)).put (d := 65) (v := vi (rlE qa (((i9 : Nat) : Int) + (1 * (2 ^ Int.toNat (x7 - 1)))) (x7 - 1) 2)) (by decide)
     clear hF
     refine hS.ordV (l := [0, 1]) ?_
     refine ord_nil ?_
     refine St.ordBegin [(0, 1), (1, 1), (2, 1), (3, 1), (4, 1), (5, 1), (6, 1), (7, 1), (8, 1), (9, 1), (10, 0), (11, 0)] [(1, .fn 0 64 dbT), (bb, .fn 0 12 (roF [pt b 0, vi 1, vi ((N : Nat) : Int), pt b 0, vi 0, vi 256, pt b 0, vi 0, vi 88, pt b 0, vi 257, vi ((N : Nat) : Int)]))] [0, 1] hS fun wd hS => ?_
     have hap := hS.mem.pairs (Hf := [(1, .fn 0 64 dbT), (bb, .fn 0 12 (roF [pt b 0, vi 1, vi ((N : Nat) : Int), pt b 0, vi 0, vi 256, pt b 0, vi 0, vi 88, pt b 0, vi 257, vi ((N : Nat) : Int)]))]) (l := [0, 1])
     refine St.ordF [0, 0, 0, 100, 0, 0, 0, 0, 20, 20] [0, 1, 2, 3, 4, 5, 6, 7, 8, 9] [0, 1, 6, 7] (rest := [(10, 0), (11, 0)]) hS hap <| segF [(69, .agg #[pt b 0, vi 0, vi 88]), (70, vi (x7 - 1)), (71, pt bb 0), (75, vi (((i9 : Nat) : Int) + (1 * (2 ^ Int.toNat (x7 - 1)))))] [.p (fit .i64 (((i9 : Nat) : Int) + (1 * (2 ^ Int.toNat (x7 - 1))))), .p ((0 : Int) ≤ (x7 - 1) ∧ IntKind.i64.wrap (1 * 2 ^ (min (Int.toNat (x7 - 1)) 64)) = (1 * (2 ^ Int.toNat (x7 - 1)))), .e bb, .p (0 ≤ 8 ∧ 8 < 12), .e bb, .p (0 ≤ 7 ∧ 7 < 12), .e bb, .p (0 ≤ 6 ∧ 6 < 12)] ⟨fit_i64 (by omega), shl2_i64 (by omega) (by omega) (by exact pgsN_sh (by omega)), (by decide), (by decide), (by decide), trivial⟩ fun ac hS => ?_
     refine hS.ordC 10 67 #[pt bb 0, vi (((i9 : Nat) : Int) + (1 * (2 ^ Int.toNat (x7 - 1))))] (bu_at bb b N (((i9 : Nat) : Int) + (1 * (2 ^ Int.toNat (x7 - 1)))) _ (hS.mem.get 1 bb (.fn 0 12 (roF [pt b 0, vi 1, vi ((N : Nat) : Int), pt b 0, vi 0, vi 256, pt b 0, vi 0, vi 88, pt b 0, vi 257, vi ((N : Nat) : Int)]))) (by first | assumption | omega | (simp_all; done) | (simp_all; omega))) ?_
     rintro _ wd ⟨rfl, hF⟩
     refine ⟨vi ((1 + (((i9 : Nat) : Int) + (1 * (2 ^ Int.toNat (x7 - 1))))) * 4096), rfl, ?_⟩
     replace hS := (hS.to (hS.mem.keep0 hF)).put (d := 76) (v := vi ((1 + (((i9 : Nat) : Int) + (1 * (2 ^ Int.toNat (x7 - 1))))) * 4096)) (by decide)
     clear hF
     refine hS.ordV (l := [0, 1]) ?_
     refine hS.ordC 11 73 #[.agg #[pt b 0, vi 0, vi 88], vi (x7 - 1), vi ((1 + (((i9 : Nat) : Int) + (1 * (2 ^ Int.toNat (x7 - 1))))) * 4096)] (ls_Add b F23 (tgLM mx 257 ((N : Nat) : Int) (((i9 : Nat) : Int) + (1 * (2 ^ Int.toNat (x7 - 1)))) (x7 - 1) 2) 0 88 (x7 - 1) ((1 + (((i9 : Nat) : Int) + (1 * (2 ^ Int.toNat (x7 - 1))))) * 4096) (Qx (Int.toNat (x7 - 1))) _ (hS.mem.res 0) (by first | assumption | omega | (simp_all; done) | (simp_all; omega)) (by first | assumption | omega | (simp_all; done) | (simp_all; omega)) (by exact (i1.bm.layI (by decide)).chI (by omega)) (by exact i1.bm.psI (by omega)) (by first | assumption | omega | (simp_all; done) | (simp_all; omega))) ?_
     rintro _ wd ⟨F24, rfl, hA, hF⟩
     refine ⟨vi (lsaE (tgLM mx 257 ((N : Nat) : Int) (((i9 : Nat) : Int) + (1 * (2 ^ Int.toNat (x7 - 1)))) (x7 - 1) 2) (Qx (Int.toNat (x7 - 1))) ((1 + (((i9 : Nat) : Int) + (1 * (2 ^ Int.toNat (x7 - 1))))) * 4096)), rfl, ?_⟩
     replace hS := (hS.to (hS.mem.stepA 0 rfl hA hF)).put (d := 77) (v := vi (lsaE (tgLM mx 257 ((N : Nat) : Int) (((i9 : Nat) : Int) + (1 * (2 ^ Int.toNat (x7 - 1)))) (x7 - 1) 2) (Qx (Int.toNat (x7 - 1))) ((1 + (((i9 : Nat) : Int) + (1 * (2 ^ Int.toNat (x7 - 1))))) * 4096))) (by decide)
     clear hF
     refine hS.ordV (l := [0, 1]) ?_
     refine ord_nil ?_
     refine pop_block ?_
     exact pop_then (hS.next ((x7 - 1), F24, (lsaM (tgLM mx 257 ((N : Nat) : Int) (((i9 : Nat) : Int) + (1 * (2 ^ Int.toNat (x7 - 1)))) (x7 - 1) 2) 0 88 (x7 - 1) (Qx (Int.toNat (x7 - 1))) ((1 + (((i9 : Nat) : Int) + (1 * (2 ^ Int.toNat (x7 - 1))))) * 4096)), (rlQ qa (((i9 : Nat) : Int) + (1 * (2 ^ Int.toNat (x7 - 1)))) (x7 - 1) 2), (rlQ qv (((i9 : Nat) : Int) + (1 * (2 ^ Int.toNat (x7 - 1)))) (x7 - 1) 2), (updQ Qx (Int.toNat (x7 - 1)) (addL (Qx (Int.toNat (x7 - 1))) ((1 + (((i9 : Nat) : Int) + (1 * (2 ^ Int.toNat (x7 - 1))))) * 4096)))) ⟨(by first | omega | assumption | (simp; done) | (simp; omega)), (by exact (i1.stepI (by omega) rfl rfl).1), (by exact i2.trans (i1.stepI (by omega) rfl rfl).2 (fun j t h_ => (i1.tk j t).2 ((hBa.tk j t).2 h_))), trivial⟩ (by dsimp only; omega))
    ·
     have e9 : x7 = k := by omega
     rw [e9] at i1
     have hFi := i1.finI hk10.1
     refine wp_exit ?_
     refine pop_then_exit ?_
     refine pop_then_exit ?_
     refine pop_block_hit ?_
     refine pop_then ?_
     refine wp_region_seq ?_
     refine hS.opsC 6 [0, 0, 0, 100, 0, 0] [0, 6] fun _ => seg [(81, .agg #[pt b 0, vi 257, vi ((N : Nat) : Int)]), (82, vi ((i9 : Nat) : Int)), (83, vi k)] [(0, none), (1, none)] [.e bb, .p (0 ≤ 11 ∧ 11 < 12), .e bb, .p (0 ≤ 10 ∧ 10 < 12), .e bb, .p (0 ≤ 9 ∧ 9 < 12)] ⟨(by decide), (by decide), (by decide), trivial⟩ fun ac wd hS => ?_
     refine hS.callC 69 #[.agg #[pt b 0, vi 257, vi ((N : Nat) : Int)], vi ((i9 : Nat) : Int), vi k, v8 3] (tags_Lay_r b Fx mx 257 ((N : Nat) : Int) ((i9 : Nat) : Int) k 3 qa _ (hS.mem.res 0) (by exact i1.bm.tg) (by first | assumption | omega | (simp_all; done) | (simp_all; omega))) ?_
     rintro _ wd ⟨F25, rfl, hA, hF⟩
     refine ⟨vi (rlE qa ((i9 : Nat) : Int) k 3), rfl, ?_⟩
     replace hS := (hS.to (hS.mem.stepA 0 rfl hA hF)).put (d := 84) (v := vi (rlE qa ((i9 : Nat) : Int) k 3)) (by decide)
     clear hF
     refine list_nil_seq ?_
     refine wp_region_seq ?_
     refine hS.opsC 2 [0, 0] [] fun _ => seg [(85, pt bb 0), (86, vi ((i9 : Nat) : Int))] [(0, none), (1, none)] [] trivial fun ac wd hS => ?_
     refine hS.call0 67 #[pt bb 0, vi ((i9 : Nat) : Int)] 87 (bu_at bb b N ((i9 : Nat) : Int) _ (hS.mem.get 1 bb (.fn 0 12 (roF [pt b 0, vi 1, vi ((N : Nat) : Int), pt b 0, vi 0, vi 256, pt b 0, vi 0, vi 88, pt b 0, vi 257, vi ((N : Nat) : Int)]))) (by first | assumption | omega | (simp_all; done) | (simp_all; omega))) fun ac wd hS => ?_
     refine hS.opsC 2 [0, 0] [] fun _ => seg [(4, vi ((1 + ((i9 : Nat) : Int)) * 4096)), (5, vi 0)] [(0, none)] [] trivial fun ac wd hS => ?_
     refine list_nil_seq ?_
     refine wp_ret ?_
     refine St.retC 0 hS (.tuple #[vi ((1 + ((i9 : Nat) : Int)) * 4096), vi 0]) [] trivial fun hw => ?_
     refine ⟨((1 + ((i9 : Nat) : Int)) * 4096), 0, gb, rb, (tgLM mx 257 ((N : Nat) : Int) ((i9 : Nat) : Int) k 3), (rlQ qa ((i9 : Nat) : Int) k 3), Qx, F25, retd rfl, ?_, ?_, ?_, ?_, (hw.res 0), hw.frA⟩
     all_goals (first | rfl | exact hB | exact hfl | exact hFi.1 | exact hFb.of hFi.2.1 | exact .inl ⟨hbd, rfl, rfl, rfl, rfl, rfl⟩ | exact KeepT.refl _ _ | assumption | exact .inr (.inl ⟨hbd, FdP.no (by assumption) hfo, hge, rfl, rfl, rfl, rfl, hS214 hge⟩) | exact .inr (.inr ⟨hbd, rfl, gb, rb, qb, i9, kk9, hBa, hBb.tl, hBb.nf, hFb, hFn, by unfold bpA; omega, rfl, rfl, hFi.2.1⟩) | exact i2.trans hFi.2.2 (fun j t => (hBa.tk j t).2))
  ·
   have hfo := bnot_f hb6o
   refine wp_skip ?_
   refine pop_then ?_
   obtain ⟨i9, kk9, e6_, e7_, hFd⟩ := FdP.yes (by assumption) hfo
   obtain ⟨gb, rb, qb, Qb, hBb, hFb, hFn, hBa, hKb⟩ : ∃ (gb : Nat) (rb : Int) (qb : List Tg) (Qb : Nat → List Int), Bdy m N gb rb qb Qb ∧ FullG gb qb ∧ Fnd qb (Int.toNat k) i9 kk9 ∧ BaseP N g r q k gb rb qb ∧ KeepT m m q := ⟨g, r, q, Q, hB, hfl, hFd, .inl ⟨rfl, rfl, rfl⟩, KeepT.refl _ _⟩
   have hf9 := hBb.fnd hFn
   rw [e6_, e7_] at hS
   refine St.ordBeginS [(0, 1), (1, 1), (2, 1), (3, 1), (4, 1), (5, 1), (6, 1), (7, 0), (8, 0)] [(1, .fn 0 64 dbT), (bb, .fn 0 12 (roF [pt b 0, vi 1, vi ((N : Nat) : Int), pt b 0, vi 0, vi 256, pt b 0, vi 0, vi 88, pt b 0, vi 257, vi ((N : Nat) : Int)]))] [0, 1] hS fun wd hS => ?_
   have hap := hS.mem.pairs (Hf := [(1, .fn 0 64 dbT), (bb, .fn 0 12 (roF [pt b 0, vi 1, vi ((N : Nat) : Int), pt b 0, vi 0, vi 256, pt b 0, vi 0, vi 88, pt b 0, vi 257, vi ((N : Nat) : Int)]))]) (l := [0, 1])
   refine St.ordF [0, 0, 0, 100, 0, 0, 0] [0, 1, 2, 3, 4, 5, 6] [0, 1, 6, 7] (rest := [(7, 0), (8, 0)]) hS hap <| segF [(45, .agg #[pt b 0, vi 0, vi 88]), (46, vi ((kk9 : Nat) : Int)), (47, pt bb 0), (48, vi ((i9 : Nat) : Int))] [.e bb, .p (0 ≤ 8 ∧ 8 < 12), .e bb, .p (0 ≤ 7 ∧ 7 < 12), .e bb, .p (0 ≤ 6 ∧ 6 < 12)] ⟨(by decide), (by decide), (by decide), trivial⟩ fun ac hS => ?_
   refine hS.ordC 7 67 #[pt bb 0, vi ((i9 : Nat) : Int)] (bu_at bb b N ((i9 : Nat) : Int) _ (hS.mem.get 1 bb (.fn 0 12 (roF [pt b 0, vi 1, vi ((N : Nat) : Int), pt b 0, vi 0, vi 256, pt b 0, vi 0, vi 88, pt b 0, vi 257, vi ((N : Nat) : Int)]))) (by first | assumption | omega | (simp_all; done) | (simp_all; omega))) ?_
   rintro _ wd ⟨rfl, hF⟩
   refine ⟨vi ((1 + ((i9 : Nat) : Int)) * 4096), rfl, ?_⟩
   replace hS := (hS.to (hS.mem.keep0 hF)).put (d := 49) (v := vi ((1 + ((i9 : Nat) : Int)) * 4096)) (by decide)
   clear hF
   refine hS.ordV (l := [0, 1]) ?_
   refine hS.ordC 8 72 #[.agg #[pt b 0, vi 0, vi 88], vi ((kk9 : Nat) : Int), vi ((1 + ((i9 : Nat) : Int)) * 4096)] (ls_Remove b F m 0 88 ((kk9 : Nat) : Int) ((1 + ((i9 : Nat) : Int)) * 4096) (Qb (Int.toNat ((kk9 : Nat) : Int))) _ (hS.mem.res 0) (by first | assumption | omega | (simp_all; done) | (simp_all; omega)) (by first | assumption | omega | (simp_all; done) | (simp_all; omega)) (by exact hBb.bm.chI (by omega)) (by exact hBb.bm.psI (by omega))) ?_
   rintro _ wd ⟨F26, rfl, hA, hF⟩
   refine ⟨vi (lsrE (Qb (Int.toNat ((kk9 : Nat) : Int))) ((1 + ((i9 : Nat) : Int)) * 4096)), rfl, ?_⟩
   replace hS := (hS.to (hS.mem.stepA 0 rfl hA hF)).put (d := 50) (v := vi (lsrE (Qb (Int.toNat ((kk9 : Nat) : Int))) ((1 + ((i9 : Nat) : Int)) * 4096))) (by decide)
   clear hF
   refine hS.ordV (l := [0, 1]) ?_
   refine ord_nil ?_
   refine wp_seq ?_
   refine wp_block ?_
   refine St.loopC (σ := Int × (Nat → Prop) × AM × List Tg × List Tg × (Nat → List Int)) (fun (x : Int × (Nat → Prop) × AM × List Tg × List Tg × (Nat → List Int)) => match x with | (x7, Fx, mx, qa, qv, Qx) => ⟨[(0, [], pt bb 0), (1, [], vi k), (6, [], vi ((i9 : Nat) : Int)), (7, [], vi x7)], [(1, .fn 0 64 dbT), (bb, .fn 0 12 (roF [pt b 0, vi 1, vi ((N : Nat) : Int), pt b 0, vi 0, vi 256, pt b 0, vi 0, vi 88, pt b 0, vi 257, vi ((N : Nat) : Int)]))], [arR b Fx mx], (k ≤ x7 ∧ x7 ≤ 10) ∧ (AlI mx N gb rb qb qa qv Qx i9 (Int.toNat x7)) ∧ (KeepT m mx q) ∧ True, Int.toNat (x7 - k)⟩) (((kk9 : Nat) : Int), F26, (lsrM m 0 88 ((kk9 : Nat) : Int) (Qb (Int.toNat ((kk9 : Nat) : Int))) ((1 + ((i9 : Nat) : Int)) * 4096)), qb, (rlQ qb ((i9 : Nat) : Int) ((kk9 : Nat) : Int) (0 : Nat)), (updQ Qb kk9 (delL (Qb kk9) ((1 + ((i9 : Nat) : Int)) * 4096)))) ⟨(by omega), (by exact (AlI.zeroI hBb hFn.2.2.1 (by unfold bpA; omega)).1), (by exact hKb.trans (AlI.zeroI hBb hFn.2.2.1 (by unfold bpA; omega)).2 (fun j t => (hBa.tk j t).2)), trivial⟩ hS ?_
   clear hS
   rintro ⟨x7, Fx, mx, qa, qv, Qx⟩ ⟨i0, i1, i2, -⟩ ac wd hS
   replace i0 : k ≤ x7 ∧ x7 ≤ 10 := i0
   replace i1 : AlI mx N gb rb qb qa qv Qx i9 (Int.toNat x7) := i1
   replace i2 : KeepT m mx q := i2
   refine wp_seq ?_
   refine hS.regS [0, 0, 0] [0, 1, 6, 7] fun _ => seg [(53, vb (decide ((k : Int) < x7)))] [(0, none), (1, none)] [] trivial fun ac wd hS => ?_
   refine hS.condC (decide ((k : Int) < x7)) (fun hb27o hb27 => ?_) (fun hb27o hb27 => ?_)
   ·
    have hbs := i1.bds (by omega)
    refine wp_skip ?_
    refine pop_then ?_
    refine wp_block ?_
    refine hS.regS [0, 20, 0] [0, 1, 6] fun _ => seg [(7, vi (x7 - 1))] [(0, none), (1, none)] [.p (fit .i64 (x7 - 1))] ⟨fit_i64 (by omega), trivial⟩ fun ac wd hS => ?_
    refine St.ordBeginS [(0, 1), (1, 1), (2, 1), (3, 1), (4, 1), (5, 1), (6, 1), (7, 1), (8, 1), (9, 0)] [(1, .fn 0 64 dbT), (bb, .fn 0 12 (roF [pt b 0, vi 1, vi ((N : Nat) : Int), pt b 0, vi 0, vi 256, pt b 0, vi 0, vi 88, pt b 0, vi 257, vi ((N : Nat) : Int)]))] [0, 1] hS fun wd hS => ?_
    have hap := hS.mem.pairs (Hf := [(1, .fn 0 64 dbT), (bb, .fn 0 12 (roF [pt b 0, vi 1, vi ((N : Nat) : Int), pt b 0, vi 0, vi 256, pt b 0, vi 0, vi 88, pt b 0, vi 257, vi ((N : Nat) : Int)]))]) (l := [0, 1])
    refine St.ordF [0, 0, 0, 100, 0, 0, 20, 20, 0] [0, 1, 2, 3, 4, 5, 6, 7, 8] [0, 1, 6, 7] (rest := [(9, 0)]) hS hap <| segF [(59, .agg #[pt b 0, vi 257, vi ((N : Nat) : Int)]), (63, vi (((i9 : Nat) : Int) + (1 * (2 ^ Int.toNat (x7 - 1))))), (64, vi (x7 - 1))] [.p (fit .i64 (((i9 : Nat) : Int) + (1 * (2 ^ Int.toNat (x7 - 1))))), .p ((0 : Int) ≤ (x7 - 1) ∧ IntKind.i64.wrap (1 * 2 ^ (min (Int.toNat (x7 - 1)) 64)) = (1 * (2 ^ Int.toNat (x7 - 1)))), .e bb, .p (0 ≤ 11 ∧ 11 < 12), .e bb, .p (0 ≤ 10 ∧ 10 < 12), .e bb, .p (0 ≤ 9 ∧ 9 < 12)] ⟨fit_i64 (by omega), shl2_i64 (by omega) (by omega) (by exact pgsN_sh (by omega)), (by decide), (by decide), (by decide), trivial⟩ fun ac hS => ?_
    refine hS.ordC 9 69 #[.agg #[pt b 0, vi 257, vi ((N : Nat) : Int)], vi (((i9 : Nat) : Int) + (1 * (2 ^ Int.toNat (x7 - 1)))), vi (x7 - 1), v8 2] (tags_Lay_r b Fx mx 257 ((N : Nat) : Int) (((i9 : Nat) : Int) + (1 * (2 ^ Int.toNat (x7 - 1)))) (x7 - 1) 2 qa _ (hS.mem.res 0) (by exact i1.bm.tg) (by first | assumption | omega | (simp_all; done) | (simp_all; omega))) ?_
    rintro _ wd ⟨F28, rfl, hA, hF⟩
    refine ⟨vi (rlE qa (((i9 : Nat) : Int) + (1 * (2 ^ Int.toNat (x7 - 1)))) (x7 - 1) 2), rfl, ?_⟩
    replace hS := (hS.to (hS.mem.stepA 0 rfl hA hF)).put (d := 65) (v := vi (rlE qa (((i9 : Nat) : Int) + (1 * (2 ^ Int.toNat (x7 - 1)))) (x7 - 1) 2)) (by decide)
    clear hF
    refine hS.ordV (l := [0, 1]) ?_
    refine ord_nil ?_
    refine St.ordBegin [(0, 1), (1, 1), (2, 1), (3, 1), (4, 1), (5, 1), (6, 1), (7, 1), (8, 1), (9, 1), (10, 0), (11, 0)] [(1, .fn 0 64 dbT), (bb, .fn 0 12 (roF [pt b 0, vi 1, vi ((N : Nat) : Int), pt b 0, vi 0, vi 256, pt b 0, vi 0, vi 88, pt b 0, vi 257, vi ((N : Nat) : Int)]))] [0, 1] hS fun wd hS => ?_
    have hap := hS.mem.pairs (Hf := [(1, .fn 0 64 dbT), (bb, .fn 0 12 (roF [pt b 0, vi 1, vi ((N : Nat) : Int), pt b 0, vi 0, vi 256, pt b 0, vi 0, vi 88, pt b 0, vi 257, vi ((N : Nat) : Int)]))]) (l := [0, 1])
    refine St.ordF [0, 0, 0, 100, 0, 0, 0, 0, 20, 20] [0, 1, 2, 3, 4, 5, 6, 7, 8, 9] [0, 1, 6, 7] (rest := [(10, 0), (11, 0)]) hS hap <| segF [(69, .agg #[pt b 0, vi 0, vi 88]), (70, vi (x7 - 1)), (71, pt bb 0), (75, vi (((i9 : Nat) : Int) + (1 * (2 ^ Int.toNat (x7 - 1)))))] [.p (fit .i64 (((i9 : Nat) : Int) + (1 * (2 ^ Int.toNat (x7 - 1))))), .p ((0 : Int) ≤ (x7 - 1) ∧ IntKind.i64.wrap (1 * 2 ^ (min (Int.toNat (x7 - 1)) 64)) = (1 * (2 ^ Int.toNat (x7 - 1)))), .e bb, .p (0 ≤ 8 ∧ 8 < 12), .e bb, .p (0 ≤ 7 ∧ 7 < 12), .e bb, .p (0 ≤ 6 ∧ 6 < 12)] ⟨fit_i64 (by omega), shl2_i64 (by omega) (by omega) (by exact pgsN_sh (by omega)), (by decide), (by decide), (by decide), trivial⟩ fun ac hS => ?_
    refine hS.ordC 10 67 #[pt bb 0, vi (((i9 : Nat) : Int) + (1 * (2 ^ Int.toNat (x7 - 1))))] (bu_at bb b N (((i9 : Nat) : Int) + (1 * (2 ^ Int.toNat (x7 - 1)))) _ (hS.mem.get 1 bb (.fn 0 12 (roF [pt b 0, vi 1, vi ((N : Nat) : Int), pt b 0, vi 0, vi 256, pt b 0, vi 0, vi 88, pt b 0, vi 257, vi ((N : Nat) : Int)]))) (by first | assumption | omega | (simp_all; done) | (simp_all; omega))) ?_
    rintro _ wd ⟨rfl, hF⟩
    refine ⟨vi ((1 + (((i9 : Nat) : Int) + (1 * (2 ^ Int.toNat (x7 - 1))))) * 4096), rfl, ?_⟩
    replace hS := (hS.to (hS.mem.keep0 hF)).put (d := 76) (v := vi ((1 + (((i9 : Nat) : Int) + (1 * (2 ^ Int.toNat (x7 - 1))))) * 4096)) (by decide)
    clear hF
    refine hS.ordV (l := [0, 1]) ?_
    refine hS.ordC 11 73 #[.agg #[pt b 0, vi 0, vi 88], vi (x7 - 1), vi ((1 + (((i9 : Nat) : Int) + (1 * (2 ^ Int.toNat (x7 - 1))))) * 4096)] (ls_Add b F28 (tgLM mx 257 ((N : Nat) : Int) (((i9 : Nat) : Int) + (1 * (2 ^ Int.toNat (x7 - 1)))) (x7 - 1) 2) 0 88 (x7 - 1) ((1 + (((i9 : Nat) : Int) + (1 * (2 ^ Int.toNat (x7 - 1))))) * 4096) (Qx (Int.toNat (x7 - 1))) _ (hS.mem.res 0) (by first | assumption | omega | (simp_all; done) | (simp_all; omega)) (by first | assumption | omega | (simp_all; done) | (simp_all; omega)) (by exact (i1.bm.layI (by decide)).chI (by omega)) (by exact i1.bm.psI (by omega)) (by first | assumption | omega | (simp_all; done) | (simp_all; omega))) ?_
    rintro _ wd ⟨F29, rfl, hA, hF⟩
    refine ⟨vi (lsaE (tgLM mx 257 ((N : Nat) : Int) (((i9 : Nat) : Int) + (1 * (2 ^ Int.toNat (x7 - 1)))) (x7 - 1) 2) (Qx (Int.toNat (x7 - 1))) ((1 + (((i9 : Nat) : Int) + (1 * (2 ^ Int.toNat (x7 - 1))))) * 4096)), rfl, ?_⟩
    replace hS := (hS.to (hS.mem.stepA 0 rfl hA hF)).put (d := 77) (v := vi (lsaE (tgLM mx 257 ((N : Nat) : Int) (((i9 : Nat) : Int) + (1 * (2 ^ Int.toNat (x7 - 1)))) (x7 - 1) 2) (Qx (Int.toNat (x7 - 1))) ((1 + (((i9 : Nat) : Int) + (1 * (2 ^ Int.toNat (x7 - 1))))) * 4096))) (by decide)
    clear hF
    refine hS.ordV (l := [0, 1]) ?_
    refine ord_nil ?_
    refine pop_block ?_
    exact pop_then (hS.next ((x7 - 1), F29, (lsaM (tgLM mx 257 ((N : Nat) : Int) (((i9 : Nat) : Int) + (1 * (2 ^ Int.toNat (x7 - 1)))) (x7 - 1) 2) 0 88 (x7 - 1) (Qx (Int.toNat (x7 - 1))) ((1 + (((i9 : Nat) : Int) + (1 * (2 ^ Int.toNat (x7 - 1))))) * 4096)), (rlQ qa (((i9 : Nat) : Int) + (1 * (2 ^ Int.toNat (x7 - 1)))) (x7 - 1) 2), (rlQ qv (((i9 : Nat) : Int) + (1 * (2 ^ Int.toNat (x7 - 1)))) (x7 - 1) 2), (updQ Qx (Int.toNat (x7 - 1)) (addL (Qx (Int.toNat (x7 - 1))) ((1 + (((i9 : Nat) : Int) + (1 * (2 ^ Int.toNat (x7 - 1))))) * 4096)))) ⟨(by first | omega | assumption | (simp; done) | (simp; omega)), (by exact (i1.stepI (by omega) rfl rfl).1), (by exact i2.trans (i1.stepI (by omega) rfl rfl).2 (fun j t h_ => (i1.tk j t).2 ((hBa.tk j t).2 h_))), trivial⟩ (by dsimp only; omega))
   ·
    have e9 : x7 = k := by omega
    rw [e9] at i1
    have hFi := i1.finI hk10.1
    refine wp_exit ?_
    refine pop_then_exit ?_
    refine pop_then_exit ?_
    refine pop_block_hit ?_
    refine pop_then ?_
    refine wp_region_seq ?_
    refine hS.opsC 6 [0, 0, 0, 100, 0, 0] [0, 6] fun _ => seg [(81, .agg #[pt b 0, vi 257, vi ((N : Nat) : Int)]), (82, vi ((i9 : Nat) : Int)), (83, vi k)] [(0, none), (1, none)] [.e bb, .p (0 ≤ 11 ∧ 11 < 12), .e bb, .p (0 ≤ 10 ∧ 10 < 12), .e bb, .p (0 ≤ 9 ∧ 9 < 12)] ⟨(by decide), (by decide), (by decide), trivial⟩ fun ac wd hS => ?_
    refine hS.callC 69 #[.agg #[pt b 0, vi 257, vi ((N : Nat) : Int)], vi ((i9 : Nat) : Int), vi k, v8 3] (tags_Lay_r b Fx mx 257 ((N : Nat) : Int) ((i9 : Nat) : Int) k 3 qa _ (hS.mem.res 0) (by exact i1.bm.tg) (by first | assumption | omega | (simp_all; done) | (simp_all; omega))) ?_
    rintro _ wd ⟨F30, rfl, hA, hF⟩
    refine ⟨vi (rlE qa ((i9 : Nat) : Int) k 3), rfl, ?_⟩
    replace hS := (hS.to (hS.mem.stepA 0 rfl hA hF)).put (d := 84) (v := vi (rlE qa ((i9 : Nat) : Int) k 3)) (by decide)
    clear hF
    refine list_nil_seq ?_
    refine wp_region_seq ?_
    refine hS.opsC 2 [0, 0] [] fun _ => seg [(85, pt bb 0), (86, vi ((i9 : Nat) : Int))] [(0, none), (1, none)] [] trivial fun ac wd hS => ?_
    refine hS.call0 67 #[pt bb 0, vi ((i9 : Nat) : Int)] 87 (bu_at bb b N ((i9 : Nat) : Int) _ (hS.mem.get 1 bb (.fn 0 12 (roF [pt b 0, vi 1, vi ((N : Nat) : Int), pt b 0, vi 0, vi 256, pt b 0, vi 0, vi 88, pt b 0, vi 257, vi ((N : Nat) : Int)]))) (by first | assumption | omega | (simp_all; done) | (simp_all; omega))) fun ac wd hS => ?_
    refine hS.opsC 2 [0, 0] [] fun _ => seg [(4, vi ((1 + ((i9 : Nat) : Int)) * 4096)), (5, vi 0)] [(0, none)] [] trivial fun ac wd hS => ?_
    refine list_nil_seq ?_
    refine wp_ret ?_
    refine St.retC 0 hS (.tuple #[vi ((1 + ((i9 : Nat) : Int)) * 4096), vi 0]) [] trivial fun hw => ?_
    refine ⟨((1 + ((i9 : Nat) : Int)) * 4096), 0, gb, rb, (tgLM mx 257 ((N : Nat) : Int) ((i9 : Nat) : Int) k 3), (rlQ qa ((i9 : Nat) : Int) k 3), Qx, F30, retd rfl, ?_, ?_, ?_, ?_, (hw.res 0), hw.frA⟩
    all_goals (first | rfl | exact hB | exact hfl | exact hFi.1 | exact hFb.of hFi.2.1 | exact .inl ⟨hbd, rfl, rfl, rfl, rfl, rfl⟩ | exact KeepT.refl _ _ | assumption | exact .inr (.inl ⟨hbd, FdP.no (by assumption) hfo, hge, rfl, rfl, rfl, rfl, hS214 hge⟩) | exact .inr (.inr ⟨hbd, rfl, gb, rb, qb, i9, kk9, hBa, hBb.tl, hBb.nf, hFb, hFn, by unfold bpA; omega, rfl, rfl, hFi.2.1⟩) | exact i2.trans hFi.2.2 (fun j t => (hBa.tk j t).2))

end Go.Proofs.YtojjkjedcafpeaaGreatDoor.K

/-
  Walks, printed by w2.py.
-/
namespace Go.Proofs.YtojjkjedcafpeaaGreatDoor.K
set_option linter.unusedVariables false
set_option linter.unusedSimpArgs false

theorem bu_RunL (b : Nat) (F : Nat → Prop) (m : AM) (o_ : Int) (z : Int) (i : Int) (g : Nat) (r : Int) (q : List Tg) (Q : Nat → List Int) (N : Nat) (w : World) (hr : (arR b F m).R w) (hB : Bdy m N g r q Q) (hfl : FullG g q) (ho : o_ = 257 ∧ z = (N : Int)) (hi : 0 ≤ i ∧ i = (g : Int) - 1) :
    Calls Tryz.prog 77 #[.agg #[pt b 0, vi o_, vi z], vi i] w fun e w' => ∃ (sr : Nat), e = .returned (.tuple #[vi ((sr : Nat) : Int), .agg #[v8 (((gtD q sr)).1), v8 (((gtD q sr)).2)], vi 0]) ∧ (2 ≤ (gtD q sr).1 ∧ sr + wdQ q sr = g ∧ sr < g ∧ 0 ≤ (gtD q sr).1 ∧ (gtD q sr).1 ≤ 3 ∧ 0 ≤ (gtD q sr).2 ∧ (gtD q sr).2 ≤ 10) ∧ Fr w w' no no := by
 obtain ⟨rfl, rfl⟩ := ho
 obtain ⟨s, e1, e2, e3, hh⟩ := hB.lastR hfl hi.1 hi.2
 have hcn := hB.bm.cn
 have hnb := hB.bm.nb
 refine (tags_Run_r b F m 257 (N : Int) i q w hr hB.bm.tg (by omega)).mono ?_
 rintro e w' ⟨rfl, hF⟩
 rw [e1, e2, e3]
 exact ⟨s, rfl, hh, hF⟩

set_option maxRecDepth 100000 in
set_option maxHeartbeats 1000000 in
theorem bu_Shrink (b : Nat) (F : Nat → Prop) (m : AM) (bb : Nat) (N : Nat) (g : Nat) (r : Int) (q : List Tg) (Q : Nat → List Int) (w : World) (hr : (arR b F m).R w) (hh0 : HE.holds w bb (.fn 0 12 (roF [pt b 0, vi 1, vi ((N : Nat) : Int), pt b 0, vi 0, vi 256, pt b 0, vi 0, vi 88, pt b 0, vi 257, vi ((N : Nat) : Int)]))) (hf0 : ¬ F bb) (hB : Bdy m N g r q Q) (hfl : FullG g q) :
    Calls Tryz.prog 25 #[pt bb 0] w fun e w' => ∃ (g2 : Nat) (mo : AM) (q2 : List Tg) (Q2 : Nat → List Int) (F' : Nat → Prop), e = .returned (vi ((g : Int) - (g2 : Int))) ∧ Bdy mo N g2 r q2 Q2 ∧ FullG g2 q2 ∧ ShP q g g2 q2 ∧ KeepT m mo q ∧ (arR b F' mo).R w' ∧ Fr w w' F F' := by
 have hnb := hB.bm.nb
 have hcn := hB.bm.cn
 refine enter (args := [pt bb 0]) (D := F) (A := [arR b F m]) Tryz.func25 rfl 76 rfl [(bb, .fn 0 12 (roF [pt b 0, vi 1, vi ((N : Nat) : Int), pt b 0, vi 0, vi 256, pt b 0, vi 0, vi 88, pt b 0, vi 257, vi ((N : Nat) : Int)]))] (WS.startA (r := arR b F m) hr ⟨⟨rfl, hh0⟩, trivial⟩ ⟨hf0, trivial⟩) fun ac hS => ?_
 refine hS.regS [0] [0] fun _ => seg [] [(0, none)] [] trivial fun ac wd hS => ?_
 refine wp_region_seq ?_
 refine hS.opsC 1 [0] [0] fun _ => seg [(7, pt bb 0)] [(0, none)] [] trivial fun ac wd hS => ?_
 refine hS.call0 24 #[pt bb 0] 8 (bu_Grown b F m bb N g r q Q _ (hS.mem.res 0) (hS.mem.get 0 bb (.fn 0 12 (roF [pt b 0, vi 1, vi ((N : Nat) : Int), pt b 0, vi 0, vi 256, pt b 0, vi 0, vi 88, pt b 0, vi 257, vi ((N : Nat) : Int)]))) (by first | exact i1 | exact hB)) fun ac wd hS => ?_
 refine hS.opsC 1 [0] [0] fun _ => seg [(3, vi (g : Int))] [(0, none)] [] trivial fun ac wd hS => ?_
 refine list_nil_seq ?_
 refine wp_seq ?_
 refine wp_block ?_
 refine St.loopC (σ := (Nat → Prop) × AM × Nat × List Tg × (Nat → List Int)) (fun (x : (Nat → Prop) × AM × Nat × List Tg × (Nat → List Int)) => match x with | (Fx, mx, gx, qx, Qx) => ⟨[(0, [], pt bb 0), (3, [], vi (g : Int))], [(bb, .fn 0 12 (roF [pt b 0, vi 1, vi ((N : Nat) : Int), pt b 0, vi 0, vi 256, pt b 0, vi 0, vi 88, pt b 0, vi 257, vi ((N : Nat) : Int)]))], [arR b Fx mx], (gx ≤ g) ∧ (Bdy mx N gx r qx Qx) ∧ (FullG gx qx) ∧ ((∀ (j : Nat) (t : Int), gtD qx j = (3, t) ↔ gtD q j = (3, t))) ∧ (KeepT m mx q) ∧ True, gx⟩) (F, m, g, q, Q) ⟨(by exact Nat.le_refl _), (by exact hB), (by exact hfl), (by exact fun _ _ => Iff.rfl), (by exact KeepT.refl _ _), trivial⟩ hS ?_
 clear hS
 rintro ⟨Fx, mx, gx, qx, Qx⟩ ⟨i0, i1, i2, i3, i4, -⟩ ac wd hS
 replace i0 : gx ≤ g := i0
 replace i1 : Bdy mx N gx r qx Qx := i1
 replace i2 : FullG gx qx := i2
 replace i3 : (∀ (j : Nat) (t : Int), gtD qx j = (3, t) ↔ gtD q j = (3, t)) := i3
 replace i4 : KeepT m mx q := i4
 refine wp_seq ?_
 refine wp_region_seq ?_
 refine hS.opsC 1 [0] [0, 3] fun _ => seg [(9, pt bb 0)] [(0, none)] [] trivial fun ac wd hS => ?_
 refine hS.call0 24 #[pt bb 0] 10 (bu_Grown b Fx mx bb N gx r qx Qx _ (hS.mem.res 0) (hS.mem.get 0 bb (.fn 0 12 (roF [pt b 0, vi 1, vi ((N : Nat) : Int), pt b 0, vi 0, vi 256, pt b 0, vi 0, vi 88, pt b 0, vi 257, vi ((N : Nat) : Int)]))) (by first | exact i1 | exact hB)) fun ac wd hS => ?_
 refine hS.opsC 1 [0] [0, 3] fun _ => seg [(11, vb (decide ((0 : Int) < (gx : Int))))] [(0, none)] [] trivial fun ac wd hS => ?_
 refine list_nil_seq ?_
 refine hS.condC (decide ((0 : Int) < (gx : Int))) (fun hb1o hb1 => ?_) (fun hb1o hb1 => ?_)
 ·
  refine wp_skip ?_
  refine pop_then ?_
  refine wp_block ?_
  refine St.ordBeginTS [(0, 1), (1, 1), (2, 1), (3, 1), (4, 1), (5, 0), (6, 1), (7, 0), (8, 1), (9, 1), (10, 1), (11, 1), (12, 0), (13, 1), (14, 0), (15, 1)] (.two [(0, 1), (1, 1), (2, 1), (3, 1), (4, 1)] 5 (.two [(6, 1)] 7 (.lin [(8, 1), (9, 1), (10, 1), (11, 1), (12, 0), (13, 1), (14, 0), (15, 1)]) 12 (.lin [(7, 0), (8, 1), (9, 1), (10, 1), (11, 1), (13, 1), (14, 0), (15, 1)])) 12 (.lin [(5, 0), (6, 1), (7, 0), (8, 1), (9, 1), (10, 1), (11, 1), (13, 1), (14, 0), (15, 1)])) [(bb, .fn 0 12 (roF [pt b 0, vi 1, vi ((N : Nat) : Int), pt b 0, vi 0, vi 256, pt b 0, vi 0, vi 88, pt b 0, vi 257, vi ((N : Nat) : Int)]))] [0] hS fun wd hS => ?_
  have hap := hS.mem.pairs (Hf := [(bb, .fn 0 12 (roF [pt b 0, vi 1, vi ((N : Nat) : Int), pt b 0, vi 0, vi 256, pt b 0, vi 0, vi 88, pt b 0, vi 257, vi ((N : Nat) : Int)]))]) (l := [0])
  refine wpT_two ?_
  refine St.ordF [0, 0, 0, 0, 0] [0, 1, 2, 3, 4] [0, 3] (rest := []) hS hap <| segF [(16, .agg #[pt b 0, vi 257, vi ((N : Nat) : Int)]), (17, pt bb 0)] [.e bb, .p (0 ≤ 11 ∧ 11 < 12), .e bb, .p (0 ≤ 10 ∧ 10 < 12), .e bb, .p (0 ≤ 9 ∧ 9 < 12)] ⟨(by decide), (by decide), (by decide), trivial⟩ fun ac hS => ?_
  refine ord_nil ?_
  refine ⟨?_, ?_⟩
  ·
   refine hS.ordC 5 24 #[pt bb 0] (bu_Grown b Fx mx bb N gx r qx Qx _ (hS.mem.res 0) (hS.mem.get 0 bb (.fn 0 12 (roF [pt b 0, vi 1, vi ((N : Nat) : Int), pt b 0, vi 0, vi 256, pt b 0, vi 0, vi 88, pt b 0, vi 257, vi ((N : Nat) : Int)]))) (by first | exact i1 | exact hB)) ?_
   rintro _ wd ⟨rfl, hF⟩
   refine ⟨vi (gx : Int), rfl, ?_⟩
   replace hS := (hS.to (hS.mem.keep0 hF)).put (d := 18) (v := vi (gx : Int)) (by decide)
   clear hF
   refine hS.ordV (l := [0]) ?_
   refine ord_nil ?_
   refine wpT_two ?_
   refine St.ordF [20] [6] [0, 3, 16] (rest := []) hS hap <| segF [(19, vi ((gx : Int) - 1))] [.p (fit .i64 ((gx : Int) - 1))] ⟨fit_i64 (by omega), trivial⟩ fun ac hS => ?_
   refine ord_nil ?_
   refine ⟨?_, ?_⟩
   ·
    refine hS.ordC 7 77 #[.agg #[pt b 0, vi 257, vi ((N : Nat) : Int)], vi ((gx : Int) - 1)] (bu_RunL b Fx mx 257 ((N : Nat) : Int) ((gx : Int) - 1) gx r qx Qx N _ (hS.mem.res 0) (by exact i1) (by exact i2) (by exact ⟨rfl, rfl⟩) (by first | assumption | omega | (simp_all; done) | (simp_all; omega))) ?_
    rintro _ wd ⟨sr2, rfl, hL3, hF⟩
    refine ⟨.tuple #[vi ((sr2 : Nat) : Int), .agg #[v8 (((gtD qx sr2)).1), v8 (((gtD qx sr2)).2)], vi 0], rfl, ?_⟩
    replace hS := (hS.to (hS.mem.keep0 hF)).put (d := 20) (v := .tuple #[vi ((sr2 : Nat) : Int), .agg #[v8 (((gtD qx sr2)).1), v8 (((gtD qx sr2)).2)], vi 0]) (by decide)
    clear hF
    refine hS.ordV (l := [0]) ?_
    refine ord_nil ?_
    refine wpT_lin ?_
    refine St.ordF [0, 0, 0, 0] [8, 9, 10, 11] [0, 3] (rest := [(12, 0), (13, 1), (14, 0), (15, 1)]) hS hap <| segF [(21, vi ((sr2 : Nat) : Int)), (22, .agg #[v8 (((gtD qx sr2)).1), v8 (((gtD qx sr2)).2)]), (23, vi 0)] [] trivial fun ac hS => ?_
    refine St.ord1 12 [0] [0, 3, 21, 22, 23] [0] hS rfl fun ν6 => seg [(5, pt (ν6 0) 0)] [(0, none), (1, some ((ν6 0), .cells [v8 0, v8 0] 107))] [] trivial ⟨by as_aux_lemma => kernel_rfl, fun ac wd hS => ?_⟩
    refine St.ordF [0] [13] [0, 3, 5, 22, 23] (rest := [(14, 0), (15, 1)]) hS hap <| segF [(4, vi ((sr2 : Nat) : Int))] [] trivial fun ac hS => ?_
    refine St.ord1 14 [100] [0, 3, 4, 5, 23] [0] hS rfl fun _ => seg [] [(0, none), (1, some ((ν6 0), .cells [v8 (((gtD qx sr2)).1), v8 (((gtD qx sr2)).2)] 107))] [.e (ν6 0), .e (ν6 0)] trivial ⟨by as_aux_lemma => kernel_rfl, fun ac wd hS => ?_⟩
    refine St.ordF [0] [15] [0, 3, 4, 5] (rest := []) hS hap <| segF [(6, vi 0)] [] trivial fun ac hS => ?_
    refine ord_nil ?_
    refine wp_seq ?_
    refine hS.regS [0, 0, 0, 1, 101, 1, 60] [0, 3, 4, 5] fun _ => seg [(30, vb ((((gtD qx sr2)).1 : Int) != 2))] [(0, none), (1, none)] [.t false, .t false, .t false, .e (ν6 0), .t false] trivial fun ac wd hS => ?_
    refine hS.condC ((((gtD qx sr2)).1 : Int) != 2) (fun hb4o hb4 => ?_) (fun hb4o hb4 => ?_)
    ·
     obtain ⟨hl1, hl2, hl3, hl4, hl5, hl6, hl7⟩ := hL3
     have hT9 : (gtD qx sr2).1 = 3 := by have h9_ := hb4; omega
     refine wp_exit ?_
     refine pop_then_exit ?_
     refine pop_block_miss rfl ?_
     refine pop_then_exit ?_
     refine pop_block_hit ?_
     refine pop_then ?_
     refine wp_region_seq ?_
     refine hS.opsC 2 [0, 0] [] fun _ => seg [(72, vi (g : Int)), (73, pt bb 0)] [(0, none)] [] trivial fun ac wd hS => ?_
     refine hS.call0 24 #[pt bb 0] 74 (bu_Grown b Fx mx bb N gx r qx Qx _ (hS.mem.res 0) (hS.mem.get 0 bb (.fn 0 12 (roF [pt b 0, vi 1, vi ((N : Nat) : Int), pt b 0, vi 0, vi 256, pt b 0, vi 0, vi 88, pt b 0, vi 257, vi ((N : Nat) : Int)]))) (by first | exact i1 | exact hB)) fun ac wd hS => ?_
     refine hS.opsC 2 [20, 0] [] fun _ => seg [(2, vi ((g : Int) - (gx : Int)))] [] [.p (fit .i64 ((g : Int) - (gx : Int)))] ⟨fit_i64 (by omega), trivial⟩ fun ac wd hS => ?_
     refine list_nil_seq ?_
     refine wp_ret ?_
     refine St.retC 0 hS (vi ((g : Int) - (gx : Int))) [] trivial fun hw => ?_
     refine ⟨gx, mx, qx, Qx, Fx, retd rfl, ?_, ?_, ?_, ?_, (hw.res 0), hw.frA⟩
     all_goals (first | rfl | exact i1 | exact i2 | exact i4 | exact ⟨i0, i3, .inl (by omega)⟩ | exact ⟨i0, i3, .inr ⟨_, hT9, hl2⟩⟩)
    ·
     obtain ⟨hl1, hl2, hl3, hl4, hl5, hl6, hl7⟩ := hL3
     have hl8 := pw_bd ⟨hl6, hl7⟩
     have hSh := i1.shrink (a := (1 + ((sr2 : Nat) : Int)) * 4096) i2 hb4 hl2 hl6 rfl
     refine wp_skip ?_
     refine pop_then ?_
     refine St.ordBeginS [(0, 1), (1, 1), (2, 1), (3, 1), (4, 1), (5, 1), (6, 1), (7, 1), (8, 1), (9, 0), (10, 0)] [(bb, .fn 0 12 (roF [pt b 0, vi 1, vi ((N : Nat) : Int), pt b 0, vi 0, vi 256, pt b 0, vi 0, vi 88, pt b 0, vi 257, vi ((N : Nat) : Int)])), ((ν6 0), .cells [v8 (((gtD qx sr2)).1), v8 (((gtD qx sr2)).2)] 107)] [0, 1] hS fun wd hS => ?_
     have hap := hS.mem.pairs (Hf := [(bb, .fn 0 12 (roF [pt b 0, vi 1, vi ((N : Nat) : Int), pt b 0, vi 0, vi 256, pt b 0, vi 0, vi 88, pt b 0, vi 257, vi ((N : Nat) : Int)])), ((ν6 0), .cells [v8 (((gtD qx sr2)).1), v8 (((gtD qx sr2)).2)] 107)]) (l := [0, 1])
     refine St.ordF [0, 0, 0, 0, 0, 100, 20, 0, 0] [0, 1, 2, 3, 4, 5, 6, 7, 8] [0, 3, 4, 5] (rest := [(9, 0), (10, 0)]) hS hap <| segF [(34, .agg #[pt b 0, vi 0, vi 88]), (37, vi (((gtD qx sr2)).2)), (38, pt bb 0), (39, vi ((sr2 : Nat) : Int))] [.p (fit .i64 (((gtD qx sr2)).2)), .e (ν6 0), .e bb, .p (0 ≤ 8 ∧ 8 < 12), .e bb, .p (0 ≤ 7 ∧ 7 < 12), .e bb, .p (0 ≤ 6 ∧ 6 < 12)] ⟨fit_i64 (by omega), (by decide), (by decide), (by decide), trivial⟩ fun ac hS => ?_
     refine hS.ordC 9 67 #[pt bb 0, vi ((sr2 : Nat) : Int)] (bu_at bb b N ((sr2 : Nat) : Int) _ (hS.mem.get 0 bb (.fn 0 12 (roF [pt b 0, vi 1, vi ((N : Nat) : Int), pt b 0, vi 0, vi 256, pt b 0, vi 0, vi 88, pt b 0, vi 257, vi ((N : Nat) : Int)]))) (by first | assumption | omega | (simp_all; done) | (simp_all; omega))) ?_
     rintro _ wd ⟨rfl, hF⟩
     refine ⟨vi ((1 + ((sr2 : Nat) : Int)) * 4096), rfl, ?_⟩
     replace hS := (hS.to (hS.mem.keep0 hF)).put (d := 40) (v := vi ((1 + ((sr2 : Nat) : Int)) * 4096)) (by decide)
     clear hF
     refine hS.ordV (l := [0, 1]) ?_
     refine hS.ordC 10 72 #[.agg #[pt b 0, vi 0, vi 88], vi (((gtD qx sr2)).2), vi ((1 + ((sr2 : Nat) : Int)) * 4096)] (ls_Remove b Fx mx 0 88 (((gtD qx sr2)).2) ((1 + ((sr2 : Nat) : Int)) * 4096) (Qx (Int.toNat (gtD qx sr2).2)) _ (hS.mem.res 0) (by first | assumption | omega | (simp_all; done) | (simp_all; omega)) (by first | assumption | omega | (simp_all; done) | (simp_all; omega)) (by exact i1.bm.chI (by omega)) (by exact i1.bm.psI (by omega))) ?_
     rintro _ wd ⟨F5, rfl, hA, hF⟩
     refine ⟨vi (lsrE (Qx (Int.toNat (gtD qx sr2).2)) ((1 + ((sr2 : Nat) : Int)) * 4096)), rfl, ?_⟩
     replace hS := (hS.to (hS.mem.stepA 0 rfl hA hF)).put (d := 41) (v := vi (lsrE (Qx (Int.toNat (gtD qx sr2).2)) ((1 + ((sr2 : Nat) : Int)) * 4096))) (by decide)
     clear hF
     refine hS.ordV (l := [0, 1]) ?_
     refine ord_nil ?_
     refine St.ordBeginS [(0, 1), (1, 1), (2, 1), (3, 1), (4, 1), (5, 1), (6, 1), (7, 1), (8, 0)] [(bb, .fn 0 12 (roF [pt b 0, vi 1, vi ((N : Nat) : Int), pt b 0, vi 0, vi 256, pt b 0, vi 0, vi 88, pt b 0, vi 257, vi ((N : Nat) : Int)])), ((ν6 0), .cells [v8 (((gtD qx sr2)).1), v8 (((gtD qx sr2)).2)] 107)] [0, 1] hS fun wd hS => ?_
     have hap := hS.mem.pairs (Hf := [(bb, .fn 0 12 (roF [pt b 0, vi 1, vi ((N : Nat) : Int), pt b 0, vi 0, vi 256, pt b 0, vi 0, vi 88, pt b 0, vi 257, vi ((N : Nat) : Int)])), ((ν6 0), .cells [v8 (((gtD qx sr2)).1), v8 (((gtD qx sr2)).2)] 107)]) (l := [0, 1])
     refine St.ordF [0, 0, 0, 0, 0, 0, 100, 20] [0, 1, 2, 3, 4, 5, 6, 7] [0, 3, 4, 5] (rest := [(8, 0)]) hS hap <| segF [(45, .agg #[pt b 0, vi 257, vi ((N : Nat) : Int)]), (46, vi ((sr2 : Nat) : Int)), (49, vi (((gtD qx sr2)).2))] [.p (fit .i64 (((gtD qx sr2)).2)), .e (ν6 0), .e bb, .p (0 ≤ 11 ∧ 11 < 12), .e bb, .p (0 ≤ 10 ∧ 10 < 12), .e bb, .p (0 ≤ 9 ∧ 9 < 12)] ⟨fit_i64 (by omega), (by decide), (by decide), (by decide), trivial⟩ fun ac hS => ?_
     refine hS.ordC 8 69 #[.agg #[pt b 0, vi 257, vi ((N : Nat) : Int)], vi ((sr2 : Nat) : Int), vi (((gtD qx sr2)).2), v8 0] (tags_Lay_r b F5 (lsrM mx 0 88 (((gtD qx sr2)).2) (Qx (Int.toNat (gtD qx sr2).2)) ((1 + ((sr2 : Nat) : Int)) * 4096)) 257 ((N : Nat) : Int) ((sr2 : Nat) : Int) (((gtD qx sr2)).2) 0 qx _ (hS.mem.res 0) (by exact (i1.bm.remI (by omega) _).tg) (by first | assumption | omega | (simp_all; done) | (simp_all; omega))) ?_
     rintro _ wd ⟨F6, rfl, hA, hF⟩
     refine ⟨vi (rlE qx ((sr2 : Nat) : Int) (((gtD qx sr2)).2) 0), rfl, ?_⟩
     replace hS := (hS.to (hS.mem.stepA 0 rfl hA hF)).put (d := 50) (v := vi (rlE qx ((sr2 : Nat) : Int) (((gtD qx sr2)).2) 0)) (by decide)
     clear hF
     refine hS.ordV (l := [0, 1]) ?_
     refine ord_nil ?_
     refine St.ordBeginS [(0, 1), (1, 1), (2, 1), (3, 1), (4, 1), (5, 1), (6, 1), (7, 1), (8, 1), (9, 1), (10, 1), (11, 1), (12, 1), (13, 0)] [(bb, .fn 0 12 (roF [pt b 0, vi 1, vi ((N : Nat) : Int), pt b 0, vi 0, vi 256, pt b 0, vi 0, vi 88, pt b 0, vi 257, vi ((N : Nat) : Int)])), ((ν6 0), .cells [v8 (((gtD qx sr2)).1), v8 (((gtD qx sr2)).2)] 107)] [0, 1] hS fun wd hS => ?_
     have hap := hS.mem.pairs (Hf := [(bb, .fn 0 12 (roF [pt b 0, vi 1, vi ((N : Nat) : Int), pt b 0, vi 0, vi 256, pt b 0, vi 0, vi 88, pt b 0, vi 257, vi ((N : Nat) : Int)])), ((ν6 0), .cells [v8 (((gtD qx sr2)).1), v8 (((gtD qx sr2)).2)] 107)]) (l := [0, 1])
     refine St.ordF [0, 0, 0, 0, 0, 0, 0, 0, 0, 20, 0, 100, 20] [0, 1, 2, 3, 4, 5, 6, 7, 8, 9, 10, 11, 12] [0, 3, 4] (rest := [(13, 0)]) hS hap <| segF [(54, pt b 0), (60, vi (1 + ((sr2 : Nat) : Int))), (63, vi (1 * (2 ^ Int.toNat (((gtD qx sr2)).2))))] [.p ((0 : Int) ≤ (((gtD qx sr2)).2) ∧ IntKind.i64.wrap (1 * 2 ^ (min (Int.toNat (((gtD qx sr2)).2)) 64)) = (1 * (2 ^ Int.toNat (((gtD qx sr2)).2)))), .e (ν6 0), .p (fit .i64 (1 + ((sr2 : Nat) : Int))), .e bb, .p (0 ≤ 1 ∧ 1 < 12), .e bb, .p (0 ≤ 0 ∧ 0 < 12)] ⟨shl2_i64 (by omega) (by omega) (by exact pgsN_sh (by omega)), fit_i64 (by omega), (by decide), (by decide), trivial⟩ fun ac hS => ?_
     refine hS.ordC 13 78 #[pt b 0, vi (1 + ((sr2 : Nat) : Int)), vi (1 * (2 ^ Int.toNat (((gtD qx sr2)).2)))] (ar_Decommit b F6 (tgLM (lsrM mx 0 88 (((gtD qx sr2)).2) (Qx (Int.toNat (gtD qx sr2).2)) ((1 + ((sr2 : Nat) : Int)) * 4096)) 257 ((N : Nat) : Int) ((sr2 : Nat) : Int) (((gtD qx sr2)).2) 0) (1 + ((sr2 : Nat) : Int)) (1 * (2 ^ Int.toNat (((gtD qx sr2)).2))) _ (hS.mem.res 0) ) ?_
     rintro _ wd ⟨F7, rfl, hA, hF⟩
     refine ⟨vi (decE (tgLM (lsrM mx 0 88 (((gtD qx sr2)).2) (Qx (Int.toNat (gtD qx sr2).2)) ((1 + ((sr2 : Nat) : Int)) * 4096)) 257 ((N : Nat) : Int) ((sr2 : Nat) : Int) (((gtD qx sr2)).2) 0) (1 + ((sr2 : Nat) : Int)) (1 * (2 ^ Int.toNat (((gtD qx sr2)).2)))), rfl, ?_⟩
     replace hS := (hS.to (hS.mem.stepA 0 rfl hA hF)).put (d := 64) (v := vi (decE (tgLM (lsrM mx 0 88 (((gtD qx sr2)).2) (Qx (Int.toNat (gtD qx sr2).2)) ((1 + ((sr2 : Nat) : Int)) * 4096)) 257 ((N : Nat) : Int) ((sr2 : Nat) : Int) (((gtD qx sr2)).2) 0) (1 + ((sr2 : Nat) : Int)) (1 * (2 ^ Int.toNat (((gtD qx sr2)).2))))) (by decide)
     clear hF
     refine hS.ordV (l := [0, 1]) ?_
     refine ord_nil ?_
     refine wp_region_lit ?_
     refine hS.opsC 6 [0, 0, 0, 0, 0, 20] [0, 3] fun _ => seg [(68, .agg #[pt b 0, vi 0, vi 256]), (70, vu ((sr2 : Nat) : Int))] [(0, none)] [.p (fit .u64 ((sr2 : Nat) : Int)), .e bb, .p (0 ≤ 5 ∧ 5 < 12), .e bb, .p (0 ≤ 4 ∧ 4 < 12), .e bb, .p (0 ≤ 3 ∧ 3 < 12)] ⟨fit_u64 (by omega), (by decide), (by decide), (by decide), trivial⟩ fun ac wd hS => ?_
     refine hS.callC 58 #[.agg #[pt b 0, vi 0, vi 256], vi 96, vi 8, vu ((sr2 : Nat) : Int)] (vw_Store b F7 (decM (tgLM (lsrM mx 0 88 (((gtD qx sr2)).2) (Qx (Int.toNat (gtD qx sr2).2)) ((1 + ((sr2 : Nat) : Int)) * 4096)) 257 ((N : Nat) : Int) ((sr2 : Nat) : Int) (((gtD qx sr2)).2) 0) (1 + ((sr2 : Nat) : Int)) (1 * (2 ^ Int.toNat (((gtD qx sr2)).2)))) 0 256 96 8 ((sr2 : Nat) : Int) _ (hS.mem.res 0) (by first | assumption | omega | (simp_all; done) | (simp_all; omega))) ?_
     rintro _ wd ⟨F8, rfl, hA, hF⟩
     refine ⟨vi (vstE (decM (tgLM (lsrM mx 0 88 (((gtD qx sr2)).2) (Qx (Int.toNat (gtD qx sr2).2)) ((1 + ((sr2 : Nat) : Int)) * 4096)) 257 ((N : Nat) : Int) ((sr2 : Nat) : Int) (((gtD qx sr2)).2) 0) (1 + ((sr2 : Nat) : Int)) (1 * (2 ^ Int.toNat (((gtD qx sr2)).2)))) 0 256 96 8), rfl, ?_⟩
     replace hS := (hS.to (hS.mem.stepA 0 rfl hA hF)).put (d := 71) (v := vi (vstE (decM (tgLM (lsrM mx 0 88 (((gtD qx sr2)).2) (Qx (Int.toNat (gtD qx sr2).2)) ((1 + ((sr2 : Nat) : Int)) * 4096)) 257 ((N : Nat) : Int) ((sr2 : Nat) : Int) (((gtD qx sr2)).2) 0) (1 + ((sr2 : Nat) : Int)) (1 * (2 ^ Int.toNat (((gtD qx sr2)).2)))) 0 256 96 8)) (by decide)
     clear hF
     refine list_nil ?_
     refine pop_block ?_
     exact pop_then (hS.next (F8, (vstM (decM (tgLM (lsrM mx 0 88 (((gtD qx sr2)).2) (Qx (Int.toNat (gtD qx sr2).2)) ((1 + ((sr2 : Nat) : Int)) * 4096)) 257 ((N : Nat) : Int) ((sr2 : Nat) : Int) (((gtD qx sr2)).2) 0) (1 + ((sr2 : Nat) : Int)) (1 * (2 ^ Int.toNat (((gtD qx sr2)).2)))) 0 256 96 8 ((sr2 : Nat) : Int)), sr2, (rlQ qx ((sr2 : Nat) : Int) (gtD qx sr2).2 0), (updQ Qx (Int.toNat (gtD qx sr2).2) (delL (Qx (Int.toNat (gtD qx sr2).2)) ((1 + ((sr2 : Nat) : Int)) * 4096)))) ⟨(by omega), (by exact hSh.1), (by exact hSh.2.1), (by exact fun j t => (hSh.2.2.1 j t).trans (i3 j t)), (by exact i4.trans hSh.2.2.2 (fun j t => (i3 j t).2)), trivial⟩ (by dsimp only; omega))
   ·
    refine St.ord1 12 [0] [0, 3, 16, 19] [0] hS rfl fun ν12 => seg [(5, pt (ν12 0) 0)] [(0, none), (1, some ((ν12 0), .cells [v8 0, v8 0] 107))] [] trivial ⟨by as_aux_lemma => kernel_rfl, fun ac wd hS => ?_⟩
    refine ord_nil ?_
    refine wpT_lin ?_
    refine hS.ordC 7 77 #[.agg #[pt b 0, vi 257, vi ((N : Nat) : Int)], vi ((gx : Int) - 1)] (bu_RunL b Fx mx 257 ((N : Nat) : Int) ((gx : Int) - 1) gx r qx Qx N _ (hS.mem.res 0) (by exact i1) (by exact i2) (by exact ⟨rfl, rfl⟩) (by first | assumption | omega | (simp_all; done) | (simp_all; omega))) ?_
    rintro _ wd ⟨sr9, rfl, hL10, hF⟩
    refine ⟨.tuple #[vi ((sr9 : Nat) : Int), .agg #[v8 (((gtD qx sr9)).1), v8 (((gtD qx sr9)).2)], vi 0], rfl, ?_⟩
    replace hS := (hS.to (hS.mem.keep0 hF)).put (d := 20) (v := .tuple #[vi ((sr9 : Nat) : Int), .agg #[v8 (((gtD qx sr9)).1), v8 (((gtD qx sr9)).2)], vi 0]) (by decide)
    clear hF
    refine hS.ordV (l := [0]) ?_
    refine St.ordF [0, 0, 0, 0, 0] [8, 9, 10, 11, 13] [0, 3, 5] (rest := [(14, 0), (15, 1)]) hS hap <| segF [(4, vi ((sr9 : Nat) : Int)), (22, .agg #[v8 (((gtD qx sr9)).1), v8 (((gtD qx sr9)).2)]), (23, vi 0)] [] trivial fun ac hS => ?_
    refine St.ord1 14 [100] [0, 3, 4, 5, 23] [0] hS rfl fun _ => seg [] [(0, none), (1, some ((ν12 0), .cells [v8 (((gtD qx sr9)).1), v8 (((gtD qx sr9)).2)] 107))] [.e (ν12 0), .e (ν12 0)] trivial ⟨by as_aux_lemma => kernel_rfl, fun ac wd hS => ?_⟩
    refine St.ordF [0] [15] [0, 3, 4, 5] (rest := []) hS hap <| segF [(6, vi 0)] [] trivial fun ac hS => ?_
    refine ord_nil ?_
    refine wp_seq ?_
    refine hS.regS [0, 0, 0, 1, 101, 1, 60] [0, 3, 4, 5] fun _ => seg [(30, vb ((((gtD qx sr9)).1 : Int) != 2))] [(0, none), (1, none)] [.t false, .t false, .t false, .e (ν12 0), .t false] trivial fun ac wd hS => ?_
    refine hS.condC ((((gtD qx sr9)).1 : Int) != 2) (fun hb11o hb11 => ?_) (fun hb11o hb11 => ?_)
    ·
     obtain ⟨hl1, hl2, hl3, hl4, hl5, hl6, hl7⟩ := hL10
     have hT9 : (gtD qx sr9).1 = 3 := by have h9_ := hb11; omega
     refine wp_exit ?_
     refine pop_then_exit ?_
     refine pop_block_miss rfl ?_
     refine pop_then_exit ?_
     refine pop_block_hit ?_
     refine pop_then ?_
     refine wp_region_seq ?_
     refine hS.opsC 2 [0, 0] [] fun _ => seg [(72, vi (g : Int)), (73, pt bb 0)] [(0, none)] [] trivial fun ac wd hS => ?_
     refine hS.call0 24 #[pt bb 0] 74 (bu_Grown b Fx mx bb N gx r qx Qx _ (hS.mem.res 0) (hS.mem.get 0 bb (.fn 0 12 (roF [pt b 0, vi 1, vi ((N : Nat) : Int), pt b 0, vi 0, vi 256, pt b 0, vi 0, vi 88, pt b 0, vi 257, vi ((N : Nat) : Int)]))) (by first | exact i1 | exact hB)) fun ac wd hS => ?_
     refine hS.opsC 2 [20, 0] [] fun _ => seg [(2, vi ((g : Int) - (gx : Int)))] [] [.p (fit .i64 ((g : Int) - (gx : Int)))] ⟨fit_i64 (by omega), trivial⟩ fun ac wd hS => ?_
     refine list_nil_seq ?_
     refine wp_ret ?_
     refine St.retC 0 hS (vi ((g : Int) - (gx : Int))) [] trivial fun hw => ?_
     refine ⟨gx, mx, qx, Qx, Fx, retd rfl, ?_, ?_, ?_, ?_, (hw.res 0), hw.frA⟩
     all_goals (first | rfl | exact i1 | exact i2 | exact i4 | exact ⟨i0, i3, .inl (by omega)⟩ | exact ⟨i0, i3, .inr ⟨_, hT9, hl2⟩⟩)
    ·
     obtain ⟨hl1, hl2, hl3, hl4, hl5, hl6, hl7⟩ := hL10
     have hl8 := pw_bd ⟨hl6, hl7⟩
     have hSh := i1.shrink (a := (1 + ((sr9 : Nat) : Int)) * 4096) i2 hb11 hl2 hl6 rfl
     refine wp_skip ?_
     refine pop_then ?_
     refine St.ordBeginS [(0, 1), (1, 1), (2, 1), (3, 1), (4, 1), (5, 1), (6, 1), (7, 1), (8, 1), (9, 0), (10, 0)] [(bb, .fn 0 12 (roF [pt b 0, vi 1, vi ((N : Nat) : Int), pt b 0, vi 0, vi 256, pt b 0, vi 0, vi 88, pt b 0, vi 257, vi ((N : Nat) : Int)])), ((ν12 0), .cells [v8 (((gtD qx sr9)).1), v8 (((gtD qx sr9)).2)] 107)] [0, 1] hS fun wd hS => ?_
     have hap := hS.mem.pairs (Hf := [(bb, .fn 0 12 (roF [pt b 0, vi 1, vi ((N : Nat) : Int), pt b 0, vi 0, vi 256, pt b 0, vi 0, vi 88, pt b 0, vi 257, vi ((N : Nat) : Int)])), ((ν12 0), .cells [v8 (((gtD qx sr9)).1), v8 (((gtD qx sr9)).2)] 107)]) (l := [0, 1])
     refine St.ordF [0, 0, 0, 0, 0, 100, 20, 0, 0] [0, 1, 2, 3, 4, 5, 6, 7, 8] [0, 3, 4, 5] (rest := [(9, 0), (10, 0)]) hS hap <| segF [(34, .agg #[pt b 0, vi 0, vi 88]), (37, vi (((gtD qx sr9)).2)), (38, pt bb 0), (39, vi ((sr9 : Nat) : Int))] [.p (fit .i64 (((gtD qx sr9)).2)), .e (ν12 0), .e bb, .p (0 ≤ 8 ∧ 8 < 12), .e bb, .p (0 ≤ 7 ∧ 7 < 12), .e bb, .p (0 ≤ 6 ∧ 6 < 12)] ⟨fit_i64 (by omega), (by decide), (by decide), (by decide), trivial⟩ fun ac hS => ?_
     refine hS.ordC 9 67 #[pt bb 0, vi ((sr9 : Nat) : Int)] (bu_at bb b N ((sr9 : Nat) : Int) _ (hS.mem.get 0 bb (.fn 0 12 (roF [pt b 0, vi 1, vi ((N : Nat) : Int), pt b 0, vi 0, vi 256, pt b 0, vi 0, vi 88, pt b 0, vi 257, vi ((N : Nat) : Int)]))) (by first | assumption | omega | (simp_all; done) | (simp_all; omega))) ?_
     rintro _ wd ⟨rfl, hF⟩
     refine ⟨vi ((1 + ((sr9 : Nat) : Int)) * 4096), rfl, ?_⟩
     replace hS := (hS.to (hS.mem.keep0 hF)).put (d := 40) (v := vi ((1 + ((sr9 : Nat) : Int)) * 4096)) (by decide)
     clear hF
     refine hS.ordV (l := [0, 1]) ?_
     refine hS.ordC 10 72 #[.agg #[pt b 0, vi 0, vi 88], vi (((gtD qx sr9)).2), vi ((1 + ((sr9 : Nat) : Int)) * 4096)] (ls_Remove b Fx mx 0 88 (((gtD qx sr9)).2) ((1 + ((sr9 : Nat) : Int)) * 4096) (Qx (Int.toNat (gtD qx sr9).2)) _ (hS.mem.res 0) (by first | assumption | omega | (simp_all; done) | (simp_all; omega)) (by first | assumption | omega | (simp_all; done) | (simp_all; omega)) (by exact i1.bm.chI (by omega)) (by exact i1.bm.psI (by omega))) ?_
     rintro _ wd ⟨F12, rfl, hA, hF⟩
     refine ⟨vi (lsrE (Qx (Int.toNat (gtD qx sr9).2)) ((1 + ((sr9 : Nat) : Int)) * 4096)), rfl, ?_⟩
     replace hS := (hS.to (hS.mem.stepA 0 rfl hA hF)).put (d := 41) (v := vi (lsrE (Qx (Int.toNat (gtD qx sr9).2)) ((1 + ((sr9 : Nat) : Int)) * 4096))) (by decide)
     clear hF
     refine hS.ordV (l := [0, 1]) ?_
     refine ord_nil ?_
     refine St.ordBeginS [(0, 1), (1, 1), (2, 1), (3, 1), (4, 1), (5, 1), (6, 1), (7, 1), (8, 0)] [(bb, .fn 0 12 (roF [pt b 0, vi 1, vi ((N : Nat) : Int), pt b 0, vi 0, vi 256, pt b 0, vi 0, vi 88, pt b 0, vi 257, vi ((N : Nat) : Int)])), ((ν12 0), .cells [v8 (((gtD qx sr9)).1), v8 (((gtD qx sr9)).2)] 107)] [0, 1] hS fun wd hS => ?_
     have hap := hS.mem.pairs (Hf := [(bb, .fn 0 12 (roF [pt b 0, vi 1, vi ((N : Nat) : Int), pt b 0, vi 0, vi 256, pt b 0, vi 0, vi 88, pt b 0, vi 257, vi ((N : Nat) : Int)])), ((ν12 0), .cells [v8 (((gtD qx sr9)).1), v8 (((gtD qx sr9)).2)] 107)]) (l := [0, 1])
     refine St.ordF [0, 0, 0, 0, 0, 0, 100, 20] [0, 1, 2, 3, 4, 5, 6, 7] [0, 3, 4, 5] (rest := [(8, 0)]) hS hap <| segF [(45, .agg #[pt b 0, vi 257, vi ((N : Nat) : Int)]), (46, vi ((sr9 : Nat) : Int)), (49, vi (((gtD qx sr9)).2))] [.p (fit .i64 (((gtD qx sr9)).2)), .e (ν12 0), .e bb, .p (0 ≤ 11 ∧ 11 < 12), .e bb, .p (0 ≤ 10 ∧ 10 < 12), .e bb, .p (0 ≤ 9 ∧ 9 < 12)] ⟨fit_i64 (by omega), (by decide), (by decide), (by decide), trivial⟩ fun ac hS => ?_
     refine hS.ordC 8 69 #[.agg #[pt b 0, vi 257, vi ((N : Nat) : Int)], vi ((sr9 : Nat) : Int), vi (((gtD qx sr9)).2), v8 0] (tags_Lay_r b F12 (lsrM mx 0 88 (((gtD qx sr9)).2) (Qx (Int.toNat (gtD qx sr9).2)) ((1 + ((sr9 : Nat) : Int)) * 4096)) 257 ((N : Nat) : Int) ((sr9 : Nat) : Int) (((gtD qx sr9)).2) 0 qx _ (hS.mem.res 0) (by exact (i1.bm.remI (by omega) _).tg) (by first | assumption | omega | (simp_all; done) | (simp_all; omega))) ?_
     rintro _ wd ⟨F13, rfl, hA, hF⟩
     refine ⟨vi (rlE qx ((sr9 : Nat) : Int) (((gtD qx sr9)).2) 0), rfl, ?_⟩
     replace hS := (hS.to (hS.mem.stepA 0 rfl hA hF)).put (d := 50) (v := vi (rlE qx ((sr9 : Nat) : Int) (((gtD qx sr9)).2) 0)) (by decide)
     clear hF
     refine hS.ordV (l := [0, 1]) ?_
     refine ord_nil ?_
     refine St.ordBeginS [(0, 1), (1, 1), (2, 1), (3, 1), (4, 1), (5, 1), (6, 1), (7, 1), (8, 1), (9, 1), (10, 1), (11, 1), (12, 1), (13, 0)] [(bb, .fn 0 12 (roF [pt b 0, vi 1, vi ((N : Nat) : Int), pt b 0, vi 0, vi 256, pt b 0, vi 0, vi 88, pt b 0, vi 257, vi ((N : Nat) : Int)])), ((ν12 0), .cells [v8 (((gtD qx sr9)).1), v8 (((gtD qx sr9)).2)] 107)] [0, 1] hS fun wd hS => ?_
     have hap := hS.mem.pairs (Hf := [(bb, .fn 0 12 (roF [pt b 0, vi 1, vi ((N : Nat) : Int), pt b 0, vi 0, vi 256, pt b 0, vi 0, vi 88, pt b 0, vi 257, vi ((N : Nat) : Int)])), ((ν12 0), .cells [v8 (((gtD qx sr9)).1), v8 (((gtD qx sr9)).2)] 107)]) (l := [0, 1])
     refine St.ordF [0, 0, 0, 0, 0, 0, 0, 0, 0, 20, 0, 100, 20] [0, 1, 2, 3, 4, 5, 6, 7, 8, 9, 10, 11, 12] [0, 3, 4] (rest := [(13, 0)]) hS hap <| segF [(54, pt b 0), (60, vi (1 + ((sr9 : Nat) : Int))), (63, vi (1 * (2 ^ Int.toNat (((gtD qx sr9)).2))))] [.p ((0 : Int) ≤ (((gtD qx sr9)).2) ∧ IntKind.i64.wrap (1 * 2 ^ (min (Int.toNat (((gtD qx sr9)).2)) 64)) = (1 * (2 ^ Int.toNat (((gtD qx sr9)).2)))), .e (ν12 0), .p (fit .i64 (1 + ((sr9 : Nat) : Int))), .e bb, .p (0 ≤ 1 ∧ 1 < 12), .e bb, .p (0 ≤ 0 ∧ 0 < 12)] ⟨shl2_i64 (by omega) (by omega) (by exact pgsN_sh (by omega)), fit_i64 (by omega), (by decide), (by decide), trivial⟩ fun ac hS => ?_
     refine hS.ordC 13 78 #[pt b 0, vi (1 + ((sr9 : Nat) : Int)), vi (1 * (2 ^ Int.toNat (((gtD qx sr9)).2)))] (ar_Decommit b F13 (tgLM (lsrM mx 0 88 (((gtD qx sr9)).2) (Qx (Int.toNat (gtD qx sr9).2)) ((1 + ((sr9 : Nat) : Int)) * 4096)) 257 ((N : Nat) : Int) ((sr9 : Nat) : Int) (((gtD qx sr9)).2) 0) (1 + ((sr9 : Nat) : Int)) (1 * (2 ^ Int.toNat (((gtD qx sr9)).2))) _ (hS.mem.res 0) ) ?_
     rintro _ wd ⟨F14, rfl, hA, hF⟩
     refine ⟨vi (decE (tgLM (lsrM mx 0 88 (((gtD qx sr9)).2) (Qx (Int.toNat (gtD qx sr9).2)) ((1 + ((sr9 : Nat) : Int)) * 4096)) 257 ((N : Nat) : Int) ((sr9 : Nat) : Int) (((gtD qx sr9)).2) 0) (1 + ((sr9 : Nat) : Int)) (1 * (2 ^ Int.toNat (((gtD qx sr9)).2)))), rfl, ?_⟩
     replace hS := (hS.to (hS.mem.stepA 0 rfl hA hF)).put (d := 64) (v := vi (decE (tgLM (lsrM mx 0 88 (((gtD qx sr9)).2) (Qx (Int.toNat (gtD qx sr9).2)) ((1 + ((sr9 : Nat) : Int)) * 4096)) 257 ((N : Nat) : Int) ((sr9 : Nat) : Int) (((gtD qx sr9)).2) 0) (1 + ((sr9 : Nat) : Int)) (1 * (2 ^ Int.toNat (((gtD qx sr9)).2))))) (by decide)
     clear hF
     refine hS.ordV (l := [0, 1]) ?_
     refine ord_nil ?_
     refine wp_region_lit ?_
     refine hS.opsC 6 [0, 0, 0, 0, 0, 20] [0, 3] fun _ => seg [(68, .agg #[pt b 0, vi 0, vi 256]), (70, vu ((sr9 : Nat) : Int))] [(0, none)] [.p (fit .u64 ((sr9 : Nat) : Int)), .e bb, .p (0 ≤ 5 ∧ 5 < 12), .e bb, .p (0 ≤ 4 ∧ 4 < 12), .e bb, .p (0 ≤ 3 ∧ 3 < 12)] ⟨fit_u64 (by omega), (by decide), (by decide), (by decide), trivial⟩ fun ac wd hS => ?_
     refine hS.callC 58 #[.agg #[pt b 0, vi 0, vi 256], vi 96, vi 8, vu ((sr9 : Nat) : Int)] (vw_Store b F14 (decM (tgLM (lsrM mx 0 88 (((gtD qx sr9)).2) (Qx (Int.toNat (gtD qx sr9).2)) ((1 + ((sr9 : Nat) : Int)) * 4096)) 257 ((N : Nat) : Int) ((sr9 : Nat) : Int) (((gtD qx sr9)).2) 0) (1 + ((sr9 : Nat) : Int)) (1 * (2 ^ Int.toNat (((gtD qx sr9)).2)))) 0 256 96 8 ((sr9 : Nat) : Int) _ (hS.mem.res 0) (by first | assumption | omega | (simp_all; done) | (simp_all; omega))) ?_
     rintro _ wd ⟨F15, rfl, hA, hF⟩
     refine ⟨vi (vstE (decM (tgLM (lsrM mx 0 88 (((gtD qx sr9)).2) (Qx (Int.toNat (gtD qx sr9).2)) ((1 + ((sr9 : Nat) : Int)) * 4096)) 257 ((N : Nat) : Int) ((sr9 : Nat) : Int) (((gtD qx sr9)).2) 0) (1 + ((sr9 : Nat) : Int)) (1 * (2 ^ Int.toNat (((gtD qx sr9)).2)))) 0 256 96 8), rfl, ?_⟩
     replace hS := (hS.to (hS.mem.stepA 0 rfl hA hF)).put (d := 71) (v := vi (vstE (decM (tgLM (lsrM mx 0 88 (((gtD qx sr9)).2) (Qx (Int.toNat (gtD qx sr9).2)) ((1 + ((sr9 : Nat) : Int)) * 4096)) 257 ((N : Nat) : Int) ((sr9 : Nat) : Int) (((gtD qx sr9)).2) 0) (1 + ((sr9 : Nat) : Int)) (1 * (2 ^ Int.toNat (((gtD qx sr9)).2)))) 0 256 96 8)) (by decide)
     clear hF
     refine list_nil ?_
     refine pop_block ?_
     exact pop_then (hS.next (F15, (vstM (decM (tgLM (lsrM mx 0 88 (((gtD qx sr9)).2) (Qx (Int.toNat (gtD qx sr9).2)) ((1 + ((sr9 : Nat) : Int)) * 4096)) 257 ((N : Nat) : Int) ((sr9 : Nat) : Int) (((gtD qx sr9)).2) 0) (1 + ((sr9 : Nat) : Int)) (1 * (2 ^ Int.toNat (((gtD qx sr9)).2)))) 0 256 96 8 ((sr9 : Nat) : Int)), sr9, (rlQ qx ((sr9 : Nat) : Int) (gtD qx sr9).2 0), (updQ Qx (Int.toNat (gtD qx sr9).2) (delL (Qx (Int.toNat (gtD qx sr9).2)) ((1 + ((sr9 : Nat) : Int)) * 4096)))) ⟨(by omega), (by exact hSh.1), (by exact hSh.2.1), (by exact fun j t => (hSh.2.2.1 j t).trans (i3 j t)), (by exact i4.trans hSh.2.2.2 (fun j t => (i3 j t).2)), trivial⟩ (by dsimp only; omega))
  ·
   refine St.ord1 12 [0] [0, 3, 16, 17] [0] hS rfl fun ν18 => seg [(5, pt (ν18 0) 0)] [(0, none), (1, some ((ν18 0), .cells [v8 0, v8 0] 107))] [] trivial ⟨by as_aux_lemma => kernel_rfl, fun ac wd hS => ?_⟩
   refine ord_nil ?_
   refine wpT_lin ?_
   refine hS.ordC 5 24 #[pt bb 0] (bu_Grown b Fx mx bb N gx r qx Qx _ (hS.mem.res 0) (hS.mem.get 0 bb (.fn 0 12 (roF [pt b 0, vi 1, vi ((N : Nat) : Int), pt b 0, vi 0, vi 256, pt b 0, vi 0, vi 88, pt b 0, vi 257, vi ((N : Nat) : Int)]))) (by first | exact i1 | exact hB)) ?_
   rintro _ wd ⟨rfl, hF⟩
   refine ⟨vi (gx : Int), rfl, ?_⟩
   replace hS := (hS.to (hS.mem.keep0 hF)).put (d := 18) (v := vi (gx : Int)) (by decide)
   clear hF
   refine hS.ordV (l := [0]) ?_
   refine St.ordF [20] [6] [0, 3, 5, 16] (rest := [(7, 0), (8, 1), (9, 1), (10, 1), (11, 1), (13, 1), (14, 0), (15, 1)]) hS hap <| segF [(19, vi ((gx : Int) - 1))] [.p (fit .i64 ((gx : Int) - 1))] ⟨fit_i64 (by omega), trivial⟩ fun ac hS => ?_
   refine hS.ordC 7 77 #[.agg #[pt b 0, vi 257, vi ((N : Nat) : Int)], vi ((gx : Int) - 1)] (bu_RunL b Fx mx 257 ((N : Nat) : Int) ((gx : Int) - 1) gx r qx Qx N _ (hS.mem.res 0) (by exact i1) (by exact i2) (by exact ⟨rfl, rfl⟩) (by first | assumption | omega | (simp_all; done) | (simp_all; omega))) ?_
   rintro _ wd ⟨sr16, rfl, hL17, hF⟩
   refine ⟨.tuple #[vi ((sr16 : Nat) : Int), .agg #[v8 (((gtD qx sr16)).1), v8 (((gtD qx sr16)).2)], vi 0], rfl, ?_⟩
   replace hS := (hS.to (hS.mem.keep0 hF)).put (d := 20) (v := .tuple #[vi ((sr16 : Nat) : Int), .agg #[v8 (((gtD qx sr16)).1), v8 (((gtD qx sr16)).2)], vi 0]) (by decide)
   clear hF
   refine hS.ordV (l := [0]) ?_
   refine St.ordF [0, 0, 0, 0, 0] [8, 9, 10, 11, 13] [0, 3, 5] (rest := [(14, 0), (15, 1)]) hS hap <| segF [(4, vi ((sr16 : Nat) : Int)), (22, .agg #[v8 (((gtD qx sr16)).1), v8 (((gtD qx sr16)).2)]), (23, vi 0)] [] trivial fun ac hS => ?_
   refine St.ord1 14 [100] [0, 3, 4, 5, 23] [0] hS rfl fun _ => seg [] [(0, none), (1, some ((ν18 0), .cells [v8 (((gtD qx sr16)).1), v8 (((gtD qx sr16)).2)] 107))] [.e (ν18 0), .e (ν18 0)] trivial ⟨by as_aux_lemma => kernel_rfl, fun ac wd hS => ?_⟩
   refine St.ordF [0] [15] [0, 3, 4, 5] (rest := []) hS hap <| segF [(6, vi 0)] [] trivial fun ac hS => ?_
   refine ord_nil ?_
   refine wp_seq ?_
   refine hS.regS [0, 0, 0, 1, 101, 1, 60] [0, 3, 4, 5] fun _ => seg [(30, vb ((((gtD qx sr16)).1 : Int) != 2))] [(0, none), (1, none)] [.t false, .t false, .t false, .e (ν18 0), .t false] trivial fun ac wd hS => ?_
   refine hS.condC ((((gtD qx sr16)).1 : Int) != 2) (fun hb18o hb18 => ?_) (fun hb18o hb18 => ?_)
   ·
    obtain ⟨hl1, hl2, hl3, hl4, hl5, hl6, hl7⟩ := hL17
    have hT9 : (gtD qx sr16).1 = 3 := by have h9_ := hb18; omega
    refine wp_exit ?_
    refine pop_then_exit ?_
    refine pop_block_miss rfl ?_
    refine pop_then_exit ?_
    refine pop_block_hit ?_
    refine pop_then ?_
    refine wp_region_seq ?_
    refine hS.opsC 2 [0, 0] [] fun _ => seg [(72, vi (g : Int)), (73, pt bb 0)] [(0, none)] [] trivial fun ac wd hS => ?_
    refine hS.call0 24 #[pt bb 0] 74 (bu_Grown b Fx mx bb N gx r qx Qx _ (hS.mem.res 0) (hS.mem.get 0 bb (.fn 0 12 (roF [pt b 0, vi 1, vi ((N : Nat) : Int), pt b 0, vi 0, vi 256, pt b 0, vi 0, vi 88, pt b 0, vi 257, vi ((N : Nat) : Int)]))) (by first | exact i1 | exact hB)) fun ac wd hS => ?_
    refine hS.opsC 2 [20, 0] [] fun _ => seg [(2, vi ((g : Int) - (gx : Int)))] [] [.p (fit .i64 ((g : Int) - (gx : Int)))] ⟨fit_i64 (by omega), trivial⟩ fun ac wd hS => ?_
    refine list_nil_seq ?_
    refine wp_ret ?_
    refine St.retC 0 hS (vi ((g : Int) - (gx : Int))) [] trivial fun hw => ?_
    refine ⟨gx, mx, qx, Qx, Fx, retd rfl, ?_, ?_, ?_, ?_, (hw.res 0), hw.frA⟩
    all_goals (first | rfl | exact i1 | exact i2 | exact i4 | exact ⟨i0, i3, .inl (by omega)⟩ | exact ⟨i0, i3, .inr ⟨_, hT9, hl2⟩⟩)
   ·
    obtain ⟨hl1, hl2, hl3, hl4, hl5, hl6, hl7⟩ := hL17
    have hl8 := pw_bd ⟨hl6, hl7⟩
    have hSh := i1.shrink (a := (1 + ((sr16 : Nat) : Int)) * 4096) i2 hb18 hl2 hl6 rfl
    refine wp_skip ?_
    refine pop_then ?_
    refine St.ordBeginS [(0, 1), (1, 1), (2, 1), (3, 1), (4, 1), (5, 1), (6, 1), (7, 1), (8, 1), (9, 0), (10, 0)] [(bb, .fn 0 12 (roF [pt b 0, vi 1, vi ((N : Nat) : Int), pt b 0, vi 0, vi 256, pt b 0, vi 0, vi 88, pt b 0, vi 257, vi ((N : Nat) : Int)])), ((ν18 0), .cells [v8 (((gtD qx sr16)).1), v8 (((gtD qx sr16)).2)] 107)] [0, 1] hS fun wd hS => ?_
    have hap := hS.mem.pairs (Hf := [(bb, .fn 0 12 (roF [pt b 0, vi 1, vi ((N : Nat) : Int), pt b 0, vi 0, vi 256, pt b 0, vi 0, vi 88, pt b 0, vi 257, vi ((N : Nat) : Int)])), ((ν18 0), .cells [v8 (((gtD qx sr16)).1), v8 (((gtD qx sr16)).2)] 107)]) (l := [0, 1])
    refine St.ordF [0, 0, 0, 0, 0, 100, 20, 0, 0] [0, 1, 2, 3, 4, 5, 6, 7, 8] [0, 3, 4, 5] (rest := [(9, 0), (10, 0)]) hS hap <| segF [(34, .agg #[pt b 0, vi 0, vi 88]), (37, vi (((gtD qx sr16)).2)), (38, pt bb 0), (39, vi ((sr16 : Nat) : Int))] [.p (fit .i64 (((gtD qx sr16)).2)), .e (ν18 0), .e bb, .p (0 ≤ 8 ∧ 8 < 12), .e bb, .p (0 ≤ 7 ∧ 7 < 12), .e bb, .p (0 ≤ 6 ∧ 6 < 12)] ⟨fit_i64 (by omega), (by decide), (by decide), (by decide), trivial⟩ fun ac hS => ?_
    refine hS.ordC 9 67 #[pt bb 0, vi ((sr16 : Nat) : Int)] (bu_at bb b N ((sr16 : Nat) : Int) _ (hS.mem.get 0 bb (.fn 0 12 (roF [pt b 0, vi 1, vi ((N : Nat) : Int), pt b 0, vi 0, vi 256, pt b 0, vi 0, vi 88, pt b 0, vi 257, vi ((N : Nat) : Int)]))) (by first | assumption | omega | (simp_all; done) | (simp_all; omega))) ?_
    rintro _ wd ⟨rfl, hF⟩
    refine ⟨vi ((1 + ((sr16 : Nat) : Int)) * 4096), rfl, ?_⟩
    replace hS := (hS.to (hS.mem.keep0 hF)).put (d := 40) (v := vi ((1 + ((sr16 : Nat) : Int)) * 4096)) (by decide)
    clear hF
    refine hS.ordV (l := [0, 1]) ?_
    refine hS.ordC 10 72 #[.agg #[pt b 0, vi 0, vi 88], vi (((gtD qx sr16)).2), vi ((1 + ((sr16 : Nat) : Int)) * 4096)] (ls_Remove b Fx mx 0 88 (((gtD qx sr16)).2) ((1 + ((sr16 : Nat) : Int)) * 4096) (Qx (Int.toNat (gtD qx sr16).2)) _ (hS.mem.res 0) (by first | assumption | omega | (simp_all; done) | (simp_all; omega)) (by first | assumption | omega | (simp_all; done) | (simp_all; omega)) (by exact i1.bm.chI (by omega)) (by exact i1.bm.psI (by omega))) ?_
    rintro _ wd ⟨F19, rfl, hA, hF⟩
    refine ⟨vi (lsrE (Qx (Int.toNat (gtD qx sr16).2)) ((1 + ((sr16 : Nat) : Int)) * 4096)), rfl, ?_⟩
    replace hS := (hS.to (hS.mem.stepA 0 rfl hA hF)).put (d := 41) (v := vi (lsrE (Qx (Int.toNat (gtD qx sr16).2)) ((1 + ((sr16 : Nat) : Int)) * 4096))) (by decide)
    clear hF
    refine hS.ordV (l := [0, 1]) ?_
    refine ord_nil ?_
    refine St.ordBeginS [(0, 1), (1, 1), (2, 1), (3, 1), (4, 1), (5, 1), (6, 1), (7, 1), (8, 0)] [(bb, .fn 0 12 (roF [pt b 0, vi 1, vi ((N : Nat) : Int), pt b 0, vi 0, vi 256, pt b 0, vi 0, vi 88, pt b 0, vi 257, vi ((N : Nat) : Int)])), ((ν18 0), .cells [v8 (((gtD qx sr16)).1), v8 (((gtD qx sr16)).2)] 107)] [0, 1] hS fun wd hS => ?_
    have hap := hS.mem.pairs (Hf := [(bb, .fn 0 12 (roF [pt b 0, vi 1, vi ((N : Nat) : Int), pt b 0, vi 0, vi 256, pt b 0, vi 0, vi 88, pt b 0, vi 257, vi ((N : Nat) : Int)])), ((ν18 0), .cells [v8 (((gtD qx sr16)).1), v8 (((gtD qx sr16)).2)] 107)]) (l := [0, 1])
    refine St.ordF [0, 0, 0, 0, 0, 0, 100, 20] [0, 1, 2, 3, 4, 5, 6, 7] [0, 3, 4, 5] (rest := [(8, 0)]) hS hap <| segF [(45, .agg #[pt b 0, vi 257, vi ((N : Nat) : Int)]), (46, vi ((sr16 : Nat) : Int)), (49, vi (((gtD qx sr16)).2))] [.p (fit .i64 (((gtD qx sr16)).2)), .e (ν18 0), .e bb, .p (0 ≤ 11 ∧ 11 < 12), .e bb, .p (0 ≤ 10 ∧ 10 < 12), .e bb, .p (0 ≤ 9 ∧ 9 < 12)] ⟨fit_i64 (by omega), (by decide), (by decide), (by decide), trivial⟩ fun ac hS => ?_
    refine hS.ordC 8 69 #[.agg #[pt b 0, vi 257, vi ((N : Nat) : Int)], vi ((sr16 : Nat) : Int), vi (((gtD qx sr16)).2), v8 0] (tags_Lay_r b F19 (lsrM mx 0 88 (((gtD qx sr16)).2) (Qx (Int.toNat (gtD qx sr16).2)) ((1 + ((sr16 : Nat) : Int)) * 4096)) 257 ((N : Nat) : Int) ((sr16 : Nat) : Int) (((gtD qx sr16)).2) 0 qx _ (hS.mem.res 0) (by exact (i1.bm.remI (by omega) _).tg) (by first | assumption | omega | (simp_all; done) | (simp_all; omega))) ?_
    rintro _ wd ⟨F20, rfl, hA, hF⟩
    refine ⟨vi (rlE qx ((sr16 : Nat) : Int) (((gtD qx sr16)).2) 0), rfl, ?_⟩
    replace hS := (hS.to (hS.mem.stepA 0 rfl hA hF)).put (d := 50) (v := vi (rlE qx ((sr16 : Nat) : Int) (((gtD qx sr16)).2) 0)) (by decide)
    clear hF
    refine hS.ordV (l := [0, 1]) ?_
    refine ord_nil ?_
    refine St.ordBeginS [(0, 1), (1, 1), (2, 1), (3, 1), (4, 1), (5, 1), (6, 1), (7, 1), (8, 1), (9, 1), (10, 1), (11, 1), (12, 1), (13, 0)] [(bb, .fn 0 12 (roF [pt b 0, vi 1, vi ((N : Nat) : Int), pt b 0, vi 0, vi 256, pt b 0, vi 0, vi 88, pt b 0, vi 257, vi ((N : Nat) : Int)])), ((ν18 0), .cells [v8 (((gtD qx sr16)).1), v8 (((gtD qx sr16)).2)] 107)] [0, 1] hS fun wd hS => ?_
    have hap := hS.mem.pairs (Hf := [(bb, .fn 0 12 (roF [pt b 0, vi 1, vi ((N : Nat) : Int), pt b 0, vi 0, vi 256, pt b 0, vi 0, vi 88, pt b 0, vi 257, vi ((N : Nat) : Int)])), ((ν18 0), .cells [v8 (((gtD qx sr16)).1), v8 (((gtD qx sr16)).2)] 107)]) (l := [0, 1])
    refine St.ordF [0, 0, 0, 0, 0, 0, 0, 0, 0, 20, 0, 100, 20] [0, 1, 2, 3, 4, 5, 6, 7, 8, 9, 10, 11, 12] [0, 3, 4] (rest := [(13, 0)]) hS hap <| segF [(54, pt b 0), (60, vi (1 + ((sr16 : Nat) : Int))), (63, vi (1 * (2 ^ Int.toNat (((gtD qx sr16)).2))))] [.p ((0 : Int) ≤ (((gtD qx sr16)).2) ∧ IntKind.i64.wrap (1 * 2 ^ (min (Int.toNat (((gtD qx sr16)).2)) 64)) = (1 * (2 ^ Int.toNat (((gtD qx sr16)).2)))), .e (ν18 0), .p (fit .i64 (1 + ((sr16 : Nat) : Int))), .e bb, .p (0 ≤ 1 ∧ 1 < 12), .e bb, .p (0 ≤ 0 ∧ 0 < 12)] ⟨shl2_i64 (by omega) (by omega) (by exact pgsN_sh (by omega)), fit_i64 (by omega), (by decide), (by decide), trivial⟩ fun ac hS => ?_
    refine hS.ordC 13 78 #[pt b 0, vi (1 + ((sr16 : Nat) : Int)), vi (1 * (2 ^ Int.toNat (((gtD qx sr16)).2)))] (ar_Decommit b F20 (tgLM (lsrM mx 0 88 (((gtD qx sr16)).2) (Qx (Int.toNat (gtD qx sr16).2)) ((1 + ((sr16 : Nat) : Int)) * 4096)) 257 ((N : Nat) : Int) ((sr16 : Nat) : Int) (((gtD qx sr16)).2) 0) (1 + ((sr16 : Nat) : Int)) (1 * (2 ^ Int.toNat (((gtD qx sr16)).2))) _ (hS.mem.res 0) ) ?_
    rintro _ wd ⟨F21, rfl, hA, hF⟩
    refine ⟨vi (decE (tgLM (lsrM mx 0 88 (((gtD qx sr16)).2) (Qx (Int.toNat (gtD qx sr16).2)) ((1 + ((sr16 : Nat) : Int)) * 4096)) 257 ((N : Nat) : Int) ((sr16 : Nat) : Int) (((gtD qx sr16)).2) 0) (1 + ((sr16 : Nat) : Int)) (1 * (2 ^ Int.toNat (((gtD qx sr16)).2)))), rfl, ?_⟩
    replace hS := (hS.to (hS.mem.stepA 0 rfl hA hF)).put (d := 64) (v := vi (decE (tgLM (lsrM mx 0 88 (((gtD qx sr16)).2) (Qx (Int.toNat (gtD qx sr16).2)) ((1 + ((sr16 : Nat) : Int)) * 4096)) 257 ((N : Nat) : Int) ((sr16 : Nat) : Int) (((gtD qx sr16)).2) 0) (1 + ((sr16 : Nat) : Int)) (1 * (2 ^ Int.toNat (((gtD qx sr16)).2))))) (by decide)
    clear hF
    refine hS.ordV (l := [0, 1]) ?_
    refine ord_nil ?_
    refine wp_region_lit ?_
    refine hS.opsC 6 [0, 0, 0, 0, 0, 20] [0, 3] fun _ => seg [(68, .agg #[pt b 0, vi 0, vi 256]), (70, vu ((sr16 : Nat) : Int))] [(0, none)] [.p (fit .u64 ((sr16 : Nat) : Int)), .e bb, .p (0 ≤ 5 ∧ 5 < 12), .e bb, .p (0 ≤ 4 ∧ 4 < 12), .e bb, .p (0 ≤ 3 ∧ 3 < 12)] ⟨fit_u64 (by omega), (by decide), (by decide), (by decide), trivial⟩ fun ac wd hS => ?_
    refine hS.callC 58 #[.agg #[pt b 0, vi 0, vi 256], vi 96, vi 8, vu ((sr16 : Nat) : Int)] (vw_Store b F21 (decM (tgLM (lsrM mx 0 88 (((gtD qx sr16)).2) (Qx (Int.toNat (gtD qx sr16).2)) ((1 + ((sr16 : Nat) : Int)) * 4096)) 257 ((N : Nat) : Int) ((sr16 : Nat) : Int) (((gtD qx sr16)).2) 0) (1 + ((sr16 : Nat) : Int)) (1 * (2 ^ Int.toNat (((gtD qx sr16)).2)))) 0 256 96 8 ((sr16 : Nat) : Int) _ (hS.mem.res 0) (by first | assumption | omega | (simp_all; done) | (simp_all; omega))) ?_
    rintro _ wd ⟨F22, rfl, hA, hF⟩
    refine ⟨vi (vstE (decM (tgLM (lsrM mx 0 88 (((gtD qx sr16)).2) (Qx (Int.toNat (gtD qx sr16).2)) ((1 + ((sr16 : Nat) : Int)) * 4096)) 257 ((N : Nat) : Int) ((sr16 : Nat) : Int) (((gtD qx sr16)).2) 0) (1 + ((sr16 : Nat) : Int)) (1 * (2 ^ Int.toNat (((gtD qx sr16)).2)))) 0 256 96 8), rfl, ?_⟩
    replace hS := (hS.to (hS.mem.stepA 0 rfl hA hF)).put (d := 71) (v := vi (vstE (decM (tgLM (lsrM mx 0 88 (((gtD qx sr16)).2) (Qx (Int.toNat (gtD qx sr16).2)) ((1 + ((sr16 : Nat) : Int)) * 4096)) 257 ((N : Nat) : Int) ((sr16 : Nat) : Int) (((gtD qx sr16)).2) 0) (1 + ((sr16 : Nat) : Int)) (1 * (2 ^ Int.toNat (((gtD qx sr16)).2)))) 0 256 96 8)) (by decide)
    clear hF
    refine list_nil ?_
    refine pop_block ?_
    exact pop_then (hS.next (F22, (vstM (decM (tgLM (lsrM mx 0 88 (((gtD qx sr16)).2) (Qx (Int.toNat (gtD qx sr16).2)) ((1 + ((sr16 : Nat) : Int)) * 4096)) 257 ((N : Nat) : Int) ((sr16 : Nat) : Int) (((gtD qx sr16)).2) 0) (1 + ((sr16 : Nat) : Int)) (1 * (2 ^ Int.toNat (((gtD qx sr16)).2)))) 0 256 96 8 ((sr16 : Nat) : Int)), sr16, (rlQ qx ((sr16 : Nat) : Int) (gtD qx sr16).2 0), (updQ Qx (Int.toNat (gtD qx sr16).2) (delL (Qx (Int.toNat (gtD qx sr16).2)) ((1 + ((sr16 : Nat) : Int)) * 4096)))) ⟨(by omega), (by exact hSh.1), (by exact hSh.2.1), (by exact fun j t => (hSh.2.2.1 j t).trans (i3 j t)), (by exact i4.trans hSh.2.2.2 (fun j t => (i3 j t).2)), trivial⟩ (by dsimp only; omega))
 ·
  refine wp_exit ?_
  refine pop_then_exit ?_
  refine pop_then_exit ?_
  refine pop_block_hit ?_
  refine pop_then ?_
  refine wp_region_seq ?_
  refine hS.opsC 2 [0, 0] [] fun _ => seg [(72, vi (g : Int)), (73, pt bb 0)] [(0, none)] [] trivial fun ac wd hS => ?_
  refine hS.call0 24 #[pt bb 0] 74 (bu_Grown b Fx mx bb N gx r qx Qx _ (hS.mem.res 0) (hS.mem.get 0 bb (.fn 0 12 (roF [pt b 0, vi 1, vi ((N : Nat) : Int), pt b 0, vi 0, vi 256, pt b 0, vi 0, vi 88, pt b 0, vi 257, vi ((N : Nat) : Int)]))) (by first | exact i1 | exact hB)) fun ac wd hS => ?_
  refine hS.opsC 2 [20, 0] [] fun _ => seg [(2, vi ((g : Int) - (gx : Int)))] [] [.p (fit .i64 ((g : Int) - (gx : Int)))] ⟨fit_i64 (by omega), trivial⟩ fun ac wd hS => ?_
  refine list_nil_seq ?_
  refine wp_ret ?_
  refine St.retC 0 hS (vi ((g : Int) - (gx : Int))) [] trivial fun hw => ?_
  refine ⟨gx, mx, qx, Qx, Fx, retd rfl, ?_, ?_, ?_, ?_, (hw.res 0), hw.frA⟩
  all_goals (first | rfl | exact i1 | exact i2 | exact i4 | exact ⟨i0, i3, .inl (by omega)⟩ | exact ⟨i0, i3, .inr ⟨_, hT9, hl2⟩⟩)

end Go.Proofs.YtojjkjedcafpeaaGreatDoor.K

/-
  Walks, printed by w2.py.
-/
namespace Go.Proofs.YtojjkjedcafpeaaGreatDoor.K
set_option linter.unusedVariables false
set_option linter.unusedSimpArgs false

set_option maxRecDepth 100000 in
set_option maxHeartbeats 1000000 in
theorem bu_of0 (b : Nat) (F : Nat → Prop) (m : AM) (w : World) (hr : (arR b F m).R w) (hcap : 2 ≤ m.cap ∧ m.cap ≤ 80) (ht : thr m 0 4096 = true) :
    Calls Tryz.prog 57 #[pt b 0] w fun e w' => ∃ (bb : Nat), e = .returned (.tuple #[pt bb 0, vb true]) ∧ w.heap.size ≤ bb ∧ HE.holds w' bb (.fn 0 12 (roF [pt b 0, vi 1, vi (((m.cap : Nat) : Int) - 1), pt b 0, vi 0, vi 256, pt b 0, vi 0, vi 88, pt b 0, vi 257, vi (((m.cap : Nat) : Int) - 1)])) ∧ Fr w w' no no := by
 refine enter (args := [pt b 0]) (D := no) (A := []) Tryz.func57 rfl 75 rfl [] (WS.startL trivial) fun ac hS => ?_
 refine hS.regS [0, 0] [0] fun _ => seg [] [] [] trivial fun ac wd hS => ?_
 refine wp_region_seq ?_
 refine hS.opsC 1 [0] [0] fun _ => seg [(12, pt b 0)] [] [] trivial fun ac wd hS => ?_
 refine hS.call0 44 #[pt b 0] 13 (ar_Cap b F m _ (Res.keep hr hS.mem.fr) ) fun ac wd hS => ?_
 refine hS.call0 55 #[vi ((m.cap : Nat) : Int)] 14 (bu_own ((m.cap : Nat) : Int) _  (by first | assumption | omega | (simp_all; done) | (simp_all; omega))) fun ac wd hS => ?_
 refine hS.opsC 1 [0] [0] fun _ => seg [(4, vi 1)] [] [] trivial fun ac wd hS => ?_
 refine list_nil_seq ?_
 refine wp_region_seq ?_
 refine hS.opsC 3 [0, 0, 0] [0, 4] fun _ => seg [(15, pt b 0), (16, vi 1), (17, pt b 0)] [] [] trivial fun ac wd hS => ?_
 refine hS.call0 44 #[pt b 0] 18 (ar_Cap b F m _ (Res.keep hr hS.mem.fr) ) fun ac wd hS => ?_
 refine hS.opsC 5 [0, 20, 0, 0, 0] [0, 4] fun ν5 => seg [(5, pt (ν5 0) 0)] [(0, some ((ν5 0), .cells [pt b 0, vi 1, vi (((m.cap : Nat) : Int) - 1), pnil, vi 0, vi 0, pnil, vi 0, vi 0, pnil, vi 0, vi 0] 54))] [.p (fit .i64 (((m.cap : Nat) : Int) - 1))] ⟨fit_i64 (by omega), trivial⟩ fun ac wd hS => ?_
 refine list_nil_seq ?_
 refine wp_region_seq ?_
 refine hS.opsC 2 [0, 0] [4, 5] fun _ => seg [(24, pt b 0), (25, pt b 0)] [(0, none)] [] trivial fun ac wd hS => ?_
 refine hS.call0 44 #[pt b 0] 26 (ar_Cap b F m _ (Res.keep hr hS.mem.fr) ) fun ac wd hS => ?_
 refine hS.opsC 1 [20] [4, 5, 24] fun _ => seg [(27, vi (256 + ((m.cap : Nat) : Int)))] [(0, none)] [.p (fit .i64 (256 + ((m.cap : Nat) : Int)))] ⟨fit_i64 (by omega), trivial⟩ fun ac wd hS => ?_
 refine hS.call0 104 #[pt b 0, vi 0, vi (256 + ((m.cap : Nat) : Int))] 28 (vw_Of b F m 0 (256 + ((m.cap : Nat) : Int)) _ (Res.keep hr hS.mem.fr) (by exact thr_sub ht (by omega) (by omega) (by omega))) fun ac wd hS => ?_
 refine hS.opsC 6 [0, 0, 0, 0, 100, 0] [4, 5] fun ν8 => seg [(6, pt (ν8 0) 0), (7, vi 0)] [(0, none), (1, some ((ν8 0), .cells [pt b 0, vi 0, vi (256 + ((m.cap : Nat) : Int))] 49))] [.e (ν8 0), .e (ν8 0), .e (ν8 0)] trivial fun ac wd hS => ?_
 refine list_nil_seq ?_
 refine wp_seq ?_
 refine hS.regS [0, 0, 0, 1, 1, 1, 1, 1, 60] [4, 5, 6] fun _ => seg [(39, vb (decide (((((m.cap : Nat) : Int) - 1) : Int) < 1)))] [(0, none), (1, none)] [.t false, .t false, .t false, .e (ν5 0), .t false, .t false, .t false] trivial fun ac wd hS => ?_
 refine hS.condK (decide (((((m.cap : Nat) : Int) - 1) : Int) < 1)) false (by exact decide_eq_false (by omega)) ?_
 show Code.wp _ _ _ _ _
 refine wp_skip ?_
 refine pop_then ?_
 refine wp_region_seq ?_
 refine hS.opsC 2 [0, 100] [4, 5, 6] fun _ => seg [(41, pt (ν5 0) 0), (42, .agg #[pt b 0, vi 0, vi (256 + ((m.cap : Nat) : Int))])] [(0, none), (1, none)] [.e (ν8 0), .e (ν8 0), .e (ν8 0)] trivial fun ac wd hS => ?_
 refine hS.call0 105 #[.agg #[pt b 0, vi 0, vi (256 + ((m.cap : Nat) : Int))], vi 0, vi 256] 43 (vw_Part b F m 0 (256 + ((m.cap : Nat) : Int)) 0 256 _ (Res.keep hr hS.mem.fr) (by first | assumption | omega | (simp_all; done) | (simp_all; omega)) (by exact (vch_yes (by omega)).symm) (by exact thr_sub ht (by omega) (by omega) (by omega))) fun ac wd hS => ?_
 refine hS.opsC 6 [0, 0, 0, 0, 0, 0] [4, 5, 6] fun _ => seg [] [(0, some ((ν5 0), .cells [pt b 0, vi 1, vi (((m.cap : Nat) : Int) - 1), pt b 0, vi (0 + 0), vi 256, pnil, vi 0, vi 0, pnil, vi 0, vi 0] 54)), (1, none)] [.e (ν5 0), .e (ν5 0), .e (ν5 0)] trivial fun ac wd hS => ?_
 refine list_nil_seq ?_
 refine wp_region_seq ?_
 refine hS.opsC 1 [100] [4, 5, 6] fun _ => seg [(49, .agg #[pt b 0, vi 0, vi (256 + ((m.cap : Nat) : Int))])] [(0, none), (1, none)] [.e (ν8 0), .e (ν8 0), .e (ν8 0)] trivial fun ac wd hS => ?_
 refine hS.call0 105 #[.agg #[pt b 0, vi 0, vi (256 + ((m.cap : Nat) : Int))], vi 0, vi 88] 50 (vw_Part b F m 0 (256 + ((m.cap : Nat) : Int)) 0 88 _ (Res.keep hr hS.mem.fr) (by first | assumption | omega | (simp_all; done) | (simp_all; omega)) (by exact (vch_yes (by omega)).symm) (by exact thr_sub ht (by omega) (by omega) (by omega))) fun ac wd hS => ?_
 refine hS.opsC 6 [0, 0, 0, 0, 200, 0] [4, 5, 6] fun ν13 => seg [(8, pt (ν13 0) 0)] [(0, none), (1, none), (2, some ((ν13 0), .cells [pt b 0, vi (0 + 0), vi 88] 49))] [.e (ν13 0), .e (ν13 0), .e (ν13 0)] trivial fun ac wd hS => ?_
 refine list_nil_seq ?_
 refine St.ordBeginTS [(0, 1), (1, 1), (2, 1), (3, 1), (4, 1), (5, 1), (6, 1), (7, 0), (8, 1), (9, 1), (10, 1), (11, 0), (12, 0), (13, 1)] (.two [(0, 1), (1, 1), (2, 1), (3, 1), (4, 1), (5, 1), (6, 1)] 7 (.lin [(8, 1), (9, 1), (10, 1), (11, 0), (12, 0), (13, 1)]) 11 (.lin [(7, 0), (8, 1), (9, 1), (10, 1), (12, 0), (13, 1)])) [((ν5 0), .cells [pt b 0, vi 1, vi (((m.cap : Nat) : Int) - 1), pt b 0, vi (0 + 0), vi 256, pnil, vi 0, vi 0, pnil, vi 0, vi 0] 54), ((ν8 0), .cells [pt b 0, vi 0, vi (256 + ((m.cap : Nat) : Int))] 49), ((ν13 0), .cells [pt b 0, vi (0 + 0), vi 88] 49)] [0, 1, 2] hS fun wd hS => ?_
 have hap := hS.mem.pairs (Hf := [((ν5 0), .cells [pt b 0, vi 1, vi (((m.cap : Nat) : Int) - 1), pt b 0, vi (0 + 0), vi 256, pnil, vi 0, vi 0, pnil, vi 0, vi 0] 54), ((ν8 0), .cells [pt b 0, vi 0, vi (256 + ((m.cap : Nat) : Int))] 49), ((ν13 0), .cells [pt b 0, vi (0 + 0), vi 88] 49)]) (l := [0, 1, 2])
 refine wpT_two ?_
 refine St.ordF [100, 0, 0, 0, 0, 0, 0] [0, 1, 2, 3, 4, 5, 6] [5, 8] (rest := []) hS hap <| segF [(54, .agg #[pt b 0, vi 0, vi (256 + ((m.cap : Nat) : Int))]), (56, vi 257), (60, vi (((m.cap : Nat) : Int) - 1))] [.e (ν5 0), .e (ν8 0), .e (ν8 0), .e (ν8 0)] trivial fun ac hS => ?_
 refine ord_nil ?_
 refine ⟨?_, ?_⟩
 ·
  refine hS.ordC 7 105 #[.agg #[pt b 0, vi 0, vi (256 + ((m.cap : Nat) : Int))], vi 257, vi (((m.cap : Nat) : Int) - 1)] (vw_Part b F m 0 (256 + ((m.cap : Nat) : Int)) 257 (((m.cap : Nat) : Int) - 1) _ (Res.keep hr hS.mem.fr) (by first | assumption | omega | (simp_all; done) | (simp_all; omega)) (by exact (vch_yes (by omega)).symm) (by exact thr_sub ht (by omega) (by omega) (by omega))) ?_
  rintro _ wd ⟨rfl, hF⟩
  refine ⟨.tuple #[.agg #[pt b 0, vi (0 + 257), vi (((m.cap : Nat) : Int) - 1)], vi 0], rfl, ?_⟩
  replace hS := (hS.to (hS.mem.keep0 hF)).put (d := 61) (v := .tuple #[.agg #[pt b 0, vi (0 + 257), vi (((m.cap : Nat) : Int) - 1)], vi 0]) (by decide)
  clear hF
  refine hS.ordV (l := [0, 1, 2]) ?_
  refine ord_nil ?_
  refine wpT_lin ?_
  refine St.ordF [0, 0, 0] [8, 9, 10] [5, 8] (rest := [(11, 0), (12, 0), (13, 1)]) hS hap <| segF [(62, .agg #[pt b 0, vi (0 + 257), vi (((m.cap : Nat) : Int) - 1)]), (63, vi 0)] [] trivial fun ac hS => ?_
  refine St.ord1 11 [0] [5, 8, 62, 63] [0, 1, 2] hS rfl fun ν14 => seg [(10, pt (ν14 0) 0)] [(0, none), (1, none), (2, none), (3, some ((ν14 0), .cells [pnil, vi 0, vi 0] 49))] [] trivial ⟨by as_aux_lemma => kernel_rfl, fun ac wd hS => ?_⟩
  refine St.ord1 12 [300] [5, 8, 10, 63] [0, 1, 2] hS rfl fun _ => seg [] [(0, none), (1, none), (2, none), (3, some ((ν14 0), .cells [pt b 0, vi (0 + 257), vi (((m.cap : Nat) : Int) - 1)] 49))] [.e (ν14 0), .e (ν14 0), .e (ν14 0)] trivial ⟨by as_aux_lemma => kernel_rfl, fun ac wd hS => ?_⟩
  refine St.ordF [0] [13] [5, 8, 10] (rest := []) hS hap <| segF [] [] trivial fun ac hS => ?_
  refine ord_nil ?_
  refine St.ordBeginS [(0, 1), (1, 1), (2, 1), (4, 1), (3, 0), (5, 0), (6, 1), (7, 1), (8, 0), (9, 1), (10, 1), (11, 0)] [((ν8 0), .cells [pt b 0, vi 0, vi (256 + ((m.cap : Nat) : Int))] 49), ((ν13 0), .cells [pt b 0, vi (0 + 0), vi 88] 49), ((ν14 0), .cells [pt b 0, vi (0 + 257), vi (((m.cap : Nat) : Int) - 1)] 49)] [1, 2, 3] hS fun wd hS => ?_
  have hap := hS.mem.pairs (Hf := [((ν8 0), .cells [pt b 0, vi 0, vi (256 + ((m.cap : Nat) : Int))] 49), ((ν13 0), .cells [pt b 0, vi (0 + 0), vi 88] 49), ((ν14 0), .cells [pt b 0, vi (0 + 257), vi (((m.cap : Nat) : Int) - 1)] 49)]) (l := [1, 2, 3])
  refine St.ordF [0, 0, 100, 200] [0, 1, 2, 4] [5] (rest := [(3, 0), (5, 0), (6, 1), (7, 1), (8, 0), (9, 1), (10, 1), (11, 0)]) hS hap <| segF [(64, pt (ν5 0) 0), (65, pt (ν5 0) 0), (66, .agg #[pt b 0, vi (0 + 0), vi 88]), (68, .agg #[pt b 0, vi (0 + 257), vi (((m.cap : Nat) : Int) - 1)])] [.e (ν14 0), .e (ν14 0), .e (ν14 0), .e (ν13 0), .e (ν13 0), .e (ν13 0)] trivial fun ac hS => ?_
  refine hS.ordC 3 106 #[.agg #[pt b 0, vi (0 + 0), vi 88]] (ls_Open b (0 + 0) 88 _  ) ?_
  rintro _ wd ⟨rfl, hF⟩
  refine ⟨.agg #[pt b 0, vi (0 + 0), vi 88], rfl, ?_⟩
  replace hS := (hS.to (hS.mem.keep0 hF)).put (d := 67) (v := .agg #[pt b 0, vi (0 + 0), vi 88]) (by decide)
  clear hF
  refine hS.ordV (l := [1, 2, 3]) ?_
  refine hS.ordC 5 107 #[.agg #[pt b 0, vi (0 + 257), vi (((m.cap : Nat) : Int) - 1)]] (tags_Open b (0 + 257) (((m.cap : Nat) : Int) - 1) _  ) ?_
  rintro _ wd ⟨rfl, hF⟩
  refine ⟨.agg #[pt b 0, vi (0 + 257), vi (((m.cap : Nat) : Int) - 1)], rfl, ?_⟩
  replace hS := (hS.to (hS.mem.keep0 hF)).put (d := 69) (v := .agg #[pt b 0, vi (0 + 257), vi (((m.cap : Nat) : Int) - 1)]) (by decide)
  clear hF
  refine hS.ordV (l := [1, 2, 3]) ?_
  refine St.ordF [0, 0] [6, 7] [5, 65, 67, 69] (rest := [(8, 0), (9, 1), (10, 1), (11, 0)]) hS hap <| segF [(71, pt (ν5 0) 6)] [] trivial fun ac hS => ?_
  refine St.ord1 8 [0] [5, 65, 69] [1, 2, 3] hS rfl fun _ => seg [] [(0, some ((ν5 0), .cells [pt b 0, vi 1, vi (((m.cap : Nat) : Int) - 1), pt b 0, vi (0 + 0), vi 256, pt b 0, vi (0 + 0), vi 88, pnil, vi 0, vi 0] 54)), (1, none), (2, none), (3, none)] [.e (ν5 0), .e (ν5 0), .e (ν5 0)] trivial ⟨by as_aux_lemma => kernel_rfl, fun ac wd hS => ?_⟩
  refine St.ordF [0, 0] [9, 10] [5, 69] (rest := [(11, 0)]) hS hap <| segF [(73, pt (ν5 0) 9)] [] trivial fun ac hS => ?_
  refine St.ord1 11 [0] [5] [1, 2, 3] hS rfl fun _ => seg [] [(0, some ((ν5 0), .cells [pt b 0, vi 1, vi (((m.cap : Nat) : Int) - 1), pt b 0, vi (0 + 0), vi 256, pt b 0, vi (0 + 0), vi 88, pt b 0, vi (0 + 257), vi (((m.cap : Nat) : Int) - 1)] 54)), (1, none), (2, none), (3, none)] [.e (ν5 0), .e (ν5 0), .e (ν5 0)] trivial ⟨by as_aux_lemma => kernel_rfl, fun ac wd hS => ?_⟩
  refine ord_nil ?_
  refine hS.regS [0, 0, 0] [] fun _ => seg [(2, pt (ν5 0) 0), (3, vb true)] [(0, none)] [] trivial fun ac wd hS => ?_
  refine wp_ret ?_
  refine St.retC 0 hS (.tuple #[pt (ν5 0) 0, vb true]) [] trivial fun hw => ?_
  refine ⟨(ν5 0), retd rfl, ((hw.getm 0 (ν5 0) (.cells [pt b 0, vi 1, vi (((m.cap : Nat) : Int) - 1), pt b 0, vi (0 + 0), vi 256, pt b 0, vi (0 + 0), vi 88, pt b 0, vi (0 + 257), vi (((m.cap : Nat) : Int) - 1)] 54)).resolve_right (fun h => h)), (HE.ro (hw.get 0 (ν5 0) (.cells [pt b 0, vi 1, vi (((m.cap : Nat) : Int) - 1), pt b 0, vi (0 + 0), vi 256, pt b 0, vi (0 + 0), vi 88, pt b 0, vi (0 + 257), vi (((m.cap : Nat) : Int) - 1)] 54))), hw.fr0⟩
 ·
  refine St.ord1 11 [0] [5, 8, 54, 56, 60] [0, 1, 2] hS rfl fun ν19 => seg [(10, pt (ν19 0) 0)] [(0, none), (1, none), (2, none), (3, some ((ν19 0), .cells [pnil, vi 0, vi 0] 49))] [] trivial ⟨by as_aux_lemma => kernel_rfl, fun ac wd hS => ?_⟩
  refine ord_nil ?_
  refine wpT_lin ?_
  refine hS.ordC 7 105 #[.agg #[pt b 0, vi 0, vi (256 + ((m.cap : Nat) : Int))], vi 257, vi (((m.cap : Nat) : Int) - 1)] (vw_Part b F m 0 (256 + ((m.cap : Nat) : Int)) 257 (((m.cap : Nat) : Int) - 1) _ (Res.keep hr hS.mem.fr) (by first | assumption | omega | (simp_all; done) | (simp_all; omega)) (by exact (vch_yes (by omega)).symm) (by exact thr_sub ht (by omega) (by omega) (by omega))) ?_
  rintro _ wd ⟨rfl, hF⟩
  refine ⟨.tuple #[.agg #[pt b 0, vi (0 + 257), vi (((m.cap : Nat) : Int) - 1)], vi 0], rfl, ?_⟩
  replace hS := (hS.to (hS.mem.keep0 hF)).put (d := 61) (v := .tuple #[.agg #[pt b 0, vi (0 + 257), vi (((m.cap : Nat) : Int) - 1)], vi 0]) (by decide)
  clear hF
  refine hS.ordV (l := [0, 1, 2]) ?_
  refine St.ordF [0, 0, 0] [8, 9, 10] [5, 8, 10] (rest := [(12, 0), (13, 1)]) hS hap <| segF [(62, .agg #[pt b 0, vi (0 + 257), vi (((m.cap : Nat) : Int) - 1)]), (63, vi 0)] [] trivial fun ac hS => ?_
  refine St.ord1 12 [300] [5, 8, 10, 63] [0, 1, 2] hS rfl fun _ => seg [] [(0, none), (1, none), (2, none), (3, some ((ν19 0), .cells [pt b 0, vi (0 + 257), vi (((m.cap : Nat) : Int) - 1)] 49))] [.e (ν19 0), .e (ν19 0), .e (ν19 0)] trivial ⟨by as_aux_lemma => kernel_rfl, fun ac wd hS => ?_⟩
  refine St.ordF [0] [13] [5, 8, 10] (rest := []) hS hap <| segF [] [] trivial fun ac hS => ?_
  refine ord_nil ?_
  refine St.ordBeginS [(0, 1), (1, 1), (2, 1), (4, 1), (3, 0), (5, 0), (6, 1), (7, 1), (8, 0), (9, 1), (10, 1), (11, 0)] [((ν8 0), .cells [pt b 0, vi 0, vi (256 + ((m.cap : Nat) : Int))] 49), ((ν13 0), .cells [pt b 0, vi (0 + 0), vi 88] 49), ((ν19 0), .cells [pt b 0, vi (0 + 257), vi (((m.cap : Nat) : Int) - 1)] 49)] [1, 2, 3] hS fun wd hS => ?_
  have hap := hS.mem.pairs (Hf := [((ν8 0), .cells [pt b 0, vi 0, vi (256 + ((m.cap : Nat) : Int))] 49), ((ν13 0), .cells [pt b 0, vi (0 + 0), vi 88] 49), ((ν19 0), .cells [pt b 0, vi (0 + 257), vi (((m.cap : Nat) : Int) - 1)] 49)]) (l := [1, 2, 3])
  refine St.ordF [0, 0, 100, 200] [0, 1, 2, 4] [5] (rest := [(3, 0), (5, 0), (6, 1), (7, 1), (8, 0), (9, 1), (10, 1), (11, 0)]) hS hap <| segF [(64, pt (ν5 0) 0), (65, pt (ν5 0) 0), (66, .agg #[pt b 0, vi (0 + 0), vi 88]), (68, .agg #[pt b 0, vi (0 + 257), vi (((m.cap : Nat) : Int) - 1)])] [.e (ν19 0), .e (ν19 0), .e (ν19 0), .e (ν13 0), .e (ν13 0), .e (ν13 0)] trivial fun ac hS => ?_
  refine hS.ordC 3 106 #[.agg #[pt b 0, vi (0 + 0), vi 88]] (ls_Open b (0 + 0) 88 _  ) ?_
  rintro _ wd ⟨rfl, hF⟩
  refine ⟨.agg #[pt b 0, vi (0 + 0), vi 88], rfl, ?_⟩
  replace hS := (hS.to (hS.mem.keep0 hF)).put (d := 67) (v := .agg #[pt b 0, vi (0 + 0), vi 88]) (by decide)
  clear hF
  refine hS.ordV (l := [1, 2, 3]) ?_
  refine hS.ordC 5 107 #[.agg #[pt b 0, vi (0 + 257), vi (((m.cap : Nat) : Int) - 1)]] (tags_Open b (0 + 257) (((m.cap : Nat) : Int) - 1) _  ) ?_
  rintro _ wd ⟨rfl, hF⟩
  refine ⟨.agg #[pt b 0, vi (0 + 257), vi (((m.cap : Nat) : Int) - 1)], rfl, ?_⟩
  replace hS := (hS.to (hS.mem.keep0 hF)).put (d := 69) (v := .agg #[pt b 0, vi (0 + 257), vi (((m.cap : Nat) : Int) - 1)]) (by decide)
  clear hF
  refine hS.ordV (l := [1, 2, 3]) ?_
  refine St.ordF [0, 0] [6, 7] [5, 65, 67, 69] (rest := [(8, 0), (9, 1), (10, 1), (11, 0)]) hS hap <| segF [(71, pt (ν5 0) 6)] [] trivial fun ac hS => ?_
  refine St.ord1 8 [0] [5, 65, 69] [1, 2, 3] hS rfl fun _ => seg [] [(0, some ((ν5 0), .cells [pt b 0, vi 1, vi (((m.cap : Nat) : Int) - 1), pt b 0, vi (0 + 0), vi 256, pt b 0, vi (0 + 0), vi 88, pnil, vi 0, vi 0] 54)), (1, none), (2, none), (3, none)] [.e (ν5 0), .e (ν5 0), .e (ν5 0)] trivial ⟨by as_aux_lemma => kernel_rfl, fun ac wd hS => ?_⟩
  refine St.ordF [0, 0] [9, 10] [5, 69] (rest := [(11, 0)]) hS hap <| segF [(73, pt (ν5 0) 9)] [] trivial fun ac hS => ?_
  refine St.ord1 11 [0] [5] [1, 2, 3] hS rfl fun _ => seg [] [(0, some ((ν5 0), .cells [pt b 0, vi 1, vi (((m.cap : Nat) : Int) - 1), pt b 0, vi (0 + 0), vi 256, pt b 0, vi (0 + 0), vi 88, pt b 0, vi (0 + 257), vi (((m.cap : Nat) : Int) - 1)] 54)), (1, none), (2, none), (3, none)] [.e (ν5 0), .e (ν5 0), .e (ν5 0)] trivial ⟨by as_aux_lemma => kernel_rfl, fun ac wd hS => ?_⟩
  refine ord_nil ?_
  refine hS.regS [0, 0, 0] [] fun _ => seg [(2, pt (ν5 0) 0), (3, vb true)] [(0, none)] [] trivial fun ac wd hS => ?_
  refine wp_ret ?_
  refine St.retC 0 hS (.tuple #[pt (ν5 0) 0, vb true]) [] trivial fun hw => ?_
  refine ⟨(ν5 0), retd rfl, ((hw.getm 0 (ν5 0) (.cells [pt b 0, vi 1, vi (((m.cap : Nat) : Int) - 1), pt b 0, vi (0 + 0), vi 256, pt b 0, vi (0 + 0), vi 88, pt b 0, vi (0 + 257), vi (((m.cap : Nat) : Int) - 1)] 54)).resolve_right (fun h => h)), (HE.ro (hw.get 0 (ν5 0) (.cells [pt b 0, vi 1, vi (((m.cap : Nat) : Int) - 1), pt b 0, vi (0 + 0), vi 256, pt b 0, vi (0 + 0), vi 88, pt b 0, vi (0 + 257), vi (((m.cap : Nat) : Int) - 1)] 54))), hw.fr0⟩

theorem bu_of (b : Nat) (F : Nat → Prop) (m : AM) (N : Nat) (w : World) (hr : (arR b F m).R w) (hN : m.cap = N + 1 ∧ 1 ≤ N ∧ N ≤ 79) (ht : thr m 0 4096 = true) :
    Calls Tryz.prog 57 #[pt b 0] w fun e w' => ∃ (bb : Nat), e = .returned (.tuple #[pt bb 0, vb true]) ∧ w.heap.size ≤ bb ∧ HE.holds w' bb (.fn 0 12 (roF [pt b 0, vi 1, vi ((N : Nat) : Int), pt b 0, vi 0, vi 256, pt b 0, vi 0, vi 88, pt b 0, vi 257, vi ((N : Nat) : Int)])) ∧ Fr w w' no no := by
 have h_ := bu_of0 b F m w hr (by omega) ht
 rw [show (((m.cap : Nat) : Int) - 1) = ((N : Nat) : Int) by omega] at h_
 exact h_

set_option maxRecDepth 100000 in
set_option maxHeartbeats 1000000 in
theorem bu_New_ok (b : Nat) (F : Nat → Prop) (m : AM) (N : Nat) (r : Int) (w : World) (hr : (arR b F m).R w) (hF : FreshA m N r) (hN : 1 ≤ N ∧ N ≤ 79) (hr0 : r ≠ 0) :
    Calls Tryz.prog 13 #[pt b 0] w fun e w' => ∃ (bb : Nat) (F' : Nat → Prop), e = .returned (.tuple #[pt bb 0, vi 0]) ∧ (arR b F' (vstM (comM m 0 1) 0 256 104 8 6432341300767115597)).R w' ∧ w.heap.size ≤ bb ∧ HE.holds w' bb (.fn 0 12 (roF [pt b 0, vi 1, vi ((N : Nat) : Int), pt b 0, vi 0, vi 256, pt b 0, vi 0, vi 88, pt b 0, vi 257, vi ((N : Nat) : Int)])) ∧ ¬ F' bb ∧ Fr w w' F F' := by
 have hcap := hF.cap
 refine enter (args := [pt b 0]) (D := F) (A := [arR b F m]) Tryz.func13 rfl 34 rfl [] (WS.startA (r := arR b F m) hr trivial trivial) fun ac hS => ?_
 refine hS.regS [0, 0] [0] fun _ => seg [] [] [] trivial fun ac wd hS => ?_
 refine wp_seq ?_
 refine hS.regS [0, 0] [0] fun _ => seg [(9, vb false)] [] [] trivial fun ac wd hS => ?_
 refine hS.condF ?_
 refine wp_skip ?_
 refine pop_then ?_
 refine wp_region_seq ?_
 refine hS.opsC 1 [0] [0] fun _ => seg [(10, pt b 0)] [] [] trivial fun ac wd hS => ?_
 refine hS.call0 44 #[pt b 0] 11 (ar_Cap b F m _ (hS.mem.res 0) ) fun ac wd hS => ?_
 refine hS.call0 55 #[vi ((m.cap : Nat) : Int)] 12 (bu_own ((m.cap : Nat) : Int) _  (by omega)) fun ac wd hS => ?_
 refine hS.opsC 1 [0] [0] fun _ => seg [(4, vi 1)] [] [] trivial fun ac wd hS => ?_
 refine list_nil_seq ?_
 refine wp_seq ?_
 refine wp_region_seq ?_
 refine hS.opsC 1 [0] [0, 4] fun _ => seg [(13, pt b 0)] [] [] trivial fun ac wd hS => ?_
 refine hS.call0 44 #[pt b 0] 14 (ar_Cap b F m _ (hS.mem.res 0) ) fun ac wd hS => ?_
 refine hS.opsC 2 [0, 0] [0, 4] fun _ => seg [(16, vb (decide ((((m.cap : Nat) : Int) : Int) ≤ 1)))] [] [] trivial fun ac wd hS => ?_
 refine list_nil_seq ?_
 refine hS.condK (decide ((((m.cap : Nat) : Int) : Int) ≤ 1)) false (by exact decide_eq_false (by omega)) ?_
 show Code.wp _ _ _ _ _
 refine wp_skip ?_
 refine pop_then ?_
 refine wp_seq ?_
 refine wp_region_seq ?_
 refine hS.opsC 2 [0, 0] [0] fun _ => seg [(17, pt b 0), (18, vi 1)] [] [] trivial fun ac wd hS => ?_
 refine hS.callC 56 #[pt b 0, vi 0, vi 1] (ar_Commit b F m 0 1 _ (hS.mem.res 0) ) ?_
 rintro _ wd ⟨F1, rfl, hA, hF⟩
 refine ⟨vi (comE m 0 1), rfl, ?_⟩
 replace hS := (hS.to (hS.mem.stepA 0 rfl hA hF)).put (d := 19) (v := vi (comE m 0 1)) (by decide)
 clear hF
 refine hS.opsC 1 [0] [0] fun _ => seg [(5, vi (comE m 0 1))] [] [] trivial fun ac wd hS => ?_
 refine list_nil_seq ?_
 refine hS.regS [0, 0] [0, 5] fun _ => seg [(21, vb (((comE m 0 1) : Int) != 0))] [] [] trivial fun ac wd hS => ?_
 refine hS.condK (((comE m 0 1) : Int) != 0) false (by (rw [hF.comE, if_neg hr0]; rfl)) ?_
 show Code.wp _ _ _ _ _
 refine wp_skip ?_
 refine pop_then ?_
 refine wp_region_seq ?_
 refine hS.opsC 1 [0] [] fun _ => seg [(24, pt b 0)] [] [] trivial fun ac wd hS => ?_
 refine hS.callC 57 #[pt b 0] (bu_of b F1 (comM m 0 1) N _ (hS.mem.res 0) (by exact ⟨(hF.made hN hr0).1, hN⟩) (by exact hF.thr0 hN hr0 (by omega) (by omega) (by omega))) ?_
 rintro _ wd ⟨bb2, rfl, hog0, hoh0, hF⟩
 have ho3 : w.heap.size ≤ bb2 := Nat.le_trans hS.mem.fr.size hog0
 refine ⟨.tuple #[pt bb2 0, vb true], rfl, ?_⟩
 replace hS := (hS.to (hS.mem.outs hF [(bb2, .fn 0 12 (roF [pt b 0, vi 1, vi ((N : Nat) : Int), pt b 0, vi 0, vi 256, pt b 0, vi 0, vi 88, pt b 0, vi 257, vi ((N : Nat) : Int)]))] ⟨⟨rfl, hoh0, .inr hog0⟩, trivial⟩)).put (d := 25) (v := .tuple #[pt bb2 0, vb true]) (by decide)
 clear hF
 refine hS.opsC 5 [0, 0, 0, 0, 0] [] fun _ => seg [(6, pt bb2 0)] [(0, none)] [] trivial fun ac wd hS => ?_
 refine list_nil_seq ?_
 refine wp_region_seq ?_
 refine hS.opsC 4 [0, 0, 0, 0] [6] fun _ => seg [(31, .agg #[pt b 0, vi 0, vi 256])] [(0, none)] [.e bb2, .p (0 ≤ 5 ∧ 5 < 12), .e bb2, .p (0 ≤ 4 ∧ 4 < 12), .e bb2, .p (0 ≤ 3 ∧ 3 < 12)] ⟨(by decide), (by decide), (by decide), trivial⟩ fun ac wd hS => ?_
 refine hS.callC 58 #[.agg #[pt b 0, vi 0, vi 256], vi 104, vi 8, vu 6432341300767115597] (vw_Store b F1 (comM m 0 1) 0 256 104 8 6432341300767115597 _ (hS.mem.res 0) (by first | assumption | omega | (simp_all; done) | (simp_all; omega))) ?_
 rintro _ wd ⟨F4, rfl, hA, hF⟩
 refine ⟨vi (vstE (comM m 0 1) 0 256 104 8), rfl, ?_⟩
 replace hS := (hS.to (hS.mem.stepA 0 rfl hA hF)).put (d := 32) (v := vi (vstE (comM m 0 1) 0 256 104 8)) (by decide)
 clear hF
 refine list_nil_seq ?_
 refine hS.regS [0, 0, 0] [] fun _ => seg [(2, pt bb2 0), (3, vi 0)] [(0, none)] [] trivial fun ac wd hS => ?_
 refine wp_ret ?_
 refine St.retC 0 hS (.tuple #[pt bb2 0, vi 0]) [] trivial fun hw => ?_
 refine ⟨bb2, F4, retd rfl, (hw.res 0), ho3, (hw.get 0 bb2 (.fn 0 12 (roF [pt b 0, vi 1, vi ((N : Nat) : Int), pt b 0, vi 0, vi 256, pt b 0, vi 0, vi 88, pt b 0, vi 257, vi ((N : Nat) : Int)]))), (fun q_ => hw.free (bb2, .fn 0 12 (roF [pt b 0, vi 1, vi ((N : Nat) : Int), pt b 0, vi 0, vi 256, pt b 0, vi 0, vi 88, pt b 0, vi 257, vi ((N : Nat) : Int)])) (List.mem_of_getElem? (i := 0) (by as_aux_lemma => kernel_rfl)) (.inl q_)), hw.frA⟩

set_option maxRecDepth 100000 in
set_option maxHeartbeats 1000000 in
theorem bu_New_small (b : Nat) (F : Nat → Prop) (m : AM) (w : World) (hr : (arR b F m).R w) (hcap : m.cap ≤ 1) :
    Calls Tryz.prog 13 #[pt b 0] w fun e w' => e = .returned (.tuple #[pnil, vi 3]) ∧ Fr w w' no no := by
 refine enter (args := [pt b 0]) (D := no) (A := []) Tryz.func13 rfl 34 rfl [] (WS.startL trivial) fun ac hS => ?_
 refine hS.regS [0, 0] [0] fun _ => seg [] [] [] trivial fun ac wd hS => ?_
 refine wp_seq ?_
 refine hS.regS [0, 0] [0] fun _ => seg [(9, vb false)] [] [] trivial fun ac wd hS => ?_
 refine hS.condF ?_
 refine wp_skip ?_
 refine pop_then ?_
 refine wp_region_seq ?_
 refine hS.opsC 1 [0] [0] fun _ => seg [(10, pt b 0)] [] [] trivial fun ac wd hS => ?_
 refine hS.call0 44 #[pt b 0] 11 (ar_Cap b F m _ (Res.keep hr hS.mem.fr) ) fun ac wd hS => ?_
 refine hS.call0 55 #[vi ((m.cap : Nat) : Int)] 12 (bu_own ((m.cap : Nat) : Int) _  (by omega)) fun ac wd hS => ?_
 refine hS.opsC 1 [0] [0] fun _ => seg [(4, vi 1)] [] [] trivial fun ac wd hS => ?_
 refine list_nil_seq ?_
 refine wp_seq ?_
 refine wp_region_seq ?_
 refine hS.opsC 1 [0] [0, 4] fun _ => seg [(13, pt b 0)] [] [] trivial fun ac wd hS => ?_
 refine hS.call0 44 #[pt b 0] 14 (ar_Cap b F m _ (Res.keep hr hS.mem.fr) ) fun ac wd hS => ?_
 refine hS.opsC 2 [0, 0] [0, 4] fun _ => seg [(16, vb (decide ((((m.cap : Nat) : Int) : Int) ≤ 1)))] [] [] trivial fun ac wd hS => ?_
 refine list_nil_seq ?_
 refine hS.condK (decide ((((m.cap : Nat) : Int) : Int) ≤ 1)) true (by exact decide_eq_true (by omega)) ?_
 show Code.wp _ _ _ _ _
 refine hS.regS [0, 0] [] fun _ => seg [(2, pnil), (3, vi 3)] [] [] trivial fun ac wd hS => ?_
 refine wp_ret ?_
 refine pop_then_ret ?_
 refine St.retC 0 hS (.tuple #[pnil, vi 3]) [] trivial fun hw => ?_
 refine ⟨retd rfl, hw.fr0⟩

end Go.Proofs.YtojjkjedcafpeaaGreatDoor.K

/-
  Walks, printed by w2.py.
-/
namespace Go.Proofs.YtojjkjedcafpeaaGreatDoor.K
set_option linter.unusedVariables false
set_option linter.unusedSimpArgs false

set_option maxRecDepth 100000 in
set_option maxHeartbeats 1000000 in
theorem law06_Awake (w : World) (hh0 : HE.holds w 1 (.fn 0 64 dbT)) :
    Calls Tryz.prog 53 #[] w fun e w' => e = .returned (vb true) ∧ Fr w w' no no := by
 refine enter (args := []) (D := no) (A := []) Tryz.func53 rfl 2 rfl [(1, .fn 0 64 dbT)] (WS.startL ⟨⟨rfl, hh0⟩, trivial⟩) fun ac hS => ?_
 refine hS.regS [0] [] fun _ => seg [] [(0, none)] [] trivial fun ac wd hS => ?_
 refine wp_region_seq ?_
 refine hS.call0 99 #[] 1 (law06_awake  _ (hS.mem.get 0 1 (.fn 0 64 dbT)) ) fun ac wd hS => ?_
 refine hS.opsC 1 [0] [] fun _ => seg [(0, vb true)] [(0, none)] [] trivial fun ac wd hS => ?_
 refine list_nil_seq ?_
 refine wp_ret ?_
 refine St.retC 0 hS (vb true) [] trivial fun hw => ?_
 refine ⟨retd rfl, hw.fr0⟩

set_option maxRecDepth 100000 in
set_option maxHeartbeats 1000000 in
theorem law07_Awake (w : World) (hh0 : HE.holds w 1 (.fn 0 64 dbT)) :
    Calls Tryz.prog 54 #[] w fun e w' => e = .returned (vb true) ∧ Fr w w' no no := by
 refine enter (args := []) (D := no) (A := []) Tryz.func54 rfl 2 rfl [(1, .fn 0 64 dbT)] (WS.startL ⟨⟨rfl, hh0⟩, trivial⟩) fun ac hS => ?_
 refine hS.regS [0] [] fun _ => seg [] [(0, none)] [] trivial fun ac wd hS => ?_
 refine wp_region_seq ?_
 refine hS.call0 100 #[] 1 (law07_awake  _ (hS.mem.get 0 1 (.fn 0 64 dbT)) ) fun ac wd hS => ?_
 refine hS.opsC 1 [0] [] fun _ => seg [(0, vb true)] [(0, none)] [] trivial fun ac wd hS => ?_
 refine list_nil_seq ?_
 refine wp_ret ?_
 refine St.retC 0 hS (vb true) [] trivial fun hw => ?_
 refine ⟨retd rfl, hw.fr0⟩

set_option maxRecDepth 100000 in
set_option maxHeartbeats 1000000 in
theorem law08_awake (w : World) (hh0 : HE.holds w 1 (.fn 0 64 dbT)) :
    Calls Tryz.prog 12 #[] w fun e w' => e = .returned (vb true) ∧ Fr w w' no no := by
 have hF9 : FreshA (AM.new 9) 8 (-1) := fresh_new (by decide) (by decide)
 obtain ⟨hB9, hfl9⟩ := hF9.bdy (by decide) (by decide)
 refine enter (args := []) (D := no) (A := []) Tryz.func12 rfl 56 rfl [(1, .fn 0 64 dbT)] (WS.startL ⟨⟨rfl, hh0⟩, trivial⟩) fun ac hS => ?_
 refine hS.regS [0] [] fun _ => seg [] [(0, none)] [] trivial fun ac wd hS => ?_
 refine wp_region_seq ?_
 refine hS.callC 14 #[vi 9] (ar_New 9 _  ) ?_
 rintro _ wd ⟨b'1, F2, rfl, hN, hF⟩
 refine ⟨pt b'1 0, rfl, ?_⟩
 replace hS := (hS.to (hS.mem.newA hN hF)).put (d := 8) (v := pt b'1 0) (by decide)
 clear hF
 refine hS.callC 13 #[pt b'1 0] (bu_New_ok b'1 F2 (AM.new 9) 8 (-1) _ (hS.mem.res 0) (by exact hF9) (by decide) (by decide)) ?_
 rintro _ wd ⟨bb3, F4, rfl, hA, hog0, hoh0, hnf0, hF⟩
 have ho5 : w.heap.size ≤ bb3 := Nat.le_trans hS.mem.fr.size hog0
 refine ⟨.tuple #[pt bb3 0, vi 0], rfl, ?_⟩
 replace hS := (hS.to (hS.mem.outAT 0 rfl hA hF (g := bb3) (z := .fn 0 12 (roF [pt b'1 0, vi 1, vi ((8 : Nat) : Int), pt b'1 0, vi 0, vi 256, pt b'1 0, vi 0, vi 88, pt b'1 0, vi 257, vi ((8 : Nat) : Int)])) rfl hoh0 (.inr hog0) hnf0)).put (d := 9) (v := .tuple #[pt bb3 0, vi 0]) (by decide)
 clear hF
 refine hS.opsC 5 [0, 0, 0, 0, 0] [] fun _ => seg [(1, pt bb3 0), (2, vi 0)] [(0, none), (1, none)] [] trivial fun ac wd hS => ?_
 refine list_nil_seq ?_
 refine wp_region_seq ?_
 refine hS.opsC 1 [0] [1, 2] fun _ => seg [(13, pt bb3 0)] [(0, none), (1, none)] [] trivial fun ac wd hS => ?_
 refine hS.callC 21 #[pt bb3 0, vi 1] (bu_Alloc b'1 F4 (vstM (comM (AM.new 9) 0 1) 0 256 104 8 6432341300767115597) bb3 8 1 0 (-1) (List.replicate 8 (0, 0)) (fun _ => []) _ (hS.mem.res 0) (hS.mem.get 0 1 (.fn 0 64 dbT)) (hS.mem.get 1 bb3 (.fn 0 12 (roF [pt b'1 0, vi 1, vi ((8 : Nat) : Int), pt b'1 0, vi 0, vi 256, pt b'1 0, vi 0, vi 88, pt b'1 0, vi 257, vi ((8 : Nat) : Int)]))) (hS.mem.nF (g := 1) (r := arR b'1 F4 (vstM (comM (AM.new 9) 0 1) 0 256 104 8 6432341300767115597)) 0 0) (hS.mem.nF (g := bb3) (r := arR b'1 F4 (vstM (comM (AM.new 9) 0 1) 0 256 104 8 6432341300767115597)) 1 0) (by first | exact hB9 | exact hBa) (by first | exact hfl9 | exact hFa)) ?_
 rintro _ wd ⟨ao_6, ae_7, g28, r29, mo10, q211, Q212, F13, rfl, hB214, hF215, hA216, hK217, hA, hF⟩
 refine ⟨.tuple #[vi ao_6, vi ae_7], rfl, ?_⟩
 replace hS := (hS.to (hS.mem.stepA 0 rfl hA hF)).put (d := 14) (v := .tuple #[vi ao_6, vi ae_7]) (by decide)
 clear hF
 refine hS.opsC 5 [0, 0, 0, 0, 0] [1, 2] fun _ => seg [(3, vi ao_6), (4, vi ae_7)] [(0, none), (1, none)] [] trivial fun ac wd hS => ?_
 refine list_nil_seq ?_
 obtain ⟨ea1, ee1, eg1, er1, ht1⟩ := aw_1 hA216
 rw [ea1, ee1] at hS
 rw [eg1, er1] at hB214
 rw [eg1] at hF215
 have hBa := hB214
 have hFa := hF215
 refine wp_region_seq ?_
 refine hS.opsC 1 [0] [1, 2, 3, 4] fun _ => seg [(18, pt bb3 0)] [(0, none), (1, none)] [] trivial fun ac wd hS => ?_
 refine hS.callC 21 #[pt bb3 0, vi 0] (bu_Alloc b'1 F13 mo10 bb3 8 0 2 (-1) q211 Q212 _ (hS.mem.res 0) (hS.mem.get 0 1 (.fn 0 64 dbT)) (hS.mem.get 1 bb3 (.fn 0 12 (roF [pt b'1 0, vi 1, vi ((8 : Nat) : Int), pt b'1 0, vi 0, vi 256, pt b'1 0, vi 0, vi 88, pt b'1 0, vi 257, vi ((8 : Nat) : Int)]))) (hS.mem.nF (g := 1) (r := arR b'1 F13 mo10) 0 0) (hS.mem.nF (g := bb3) (r := arR b'1 F13 mo10) 1 0) (by first | exact hB9 | exact hBa) (by first | exact hfl9 | exact hFa)) ?_
 rintro _ wd ⟨ao_18, ae_19, g220, r221, mo22, q223, Q224, F25, rfl, hB226, hF227, hA228, hK229, hA, hF⟩
 refine ⟨.tuple #[vi ao_18, vi ae_19], rfl, ?_⟩
 replace hS := (hS.to (hS.mem.stepA 0 rfl hA hF)).put (d := 19) (v := .tuple #[vi ao_18, vi ae_19]) (by decide)
 clear hF
 refine hS.opsC 5 [0, 0, 0, 0, 0] [1, 2, 3, 4] fun _ => seg [(5, vi ao_18), (6, vi ae_19)] [(0, none), (1, none)] [] trivial fun ac wd hS => ?_
 refine list_nil_seq ?_
 obtain ⟨ea2, ee2, eg2⟩ := aw_2 hBa.tl ht1 hA228
 rw [ea2, ee2] at hS
 rw [eg2] at hB226
 have hBb := hB226
 refine wp_region_seq ?_
 refine hS.call0 53 #[] 22 (law06_Awake  _ (hS.mem.get 0 1 (.fn 0 64 dbT)) ) fun ac wd hS => ?_
 refine hS.opsC 1 [0] [1, 2, 3, 4, 5, 6] fun _ => seg [(23, vb true)] [(0, none), (1, none)] [] trivial fun ac wd hS => ?_
 refine hS.callG true 54 #[] (law07_Awake  _ (hS.mem.get 0 1 (.fn 0 64 dbT)) ) ?_
 rintro _ wd ⟨rfl, hF⟩
 refine ⟨vb true, rfl, ?_⟩
 replace hS := (hS.to (hS.mem.keep0 hF)).put (d := 24) (v := vb true) (by decide)
 clear hF
 refine hS.opsC 14 [70, 0, 1, 1, 70, 0, 1, 1, 70, 0, 1, 1, 70, 0] [1, 3, 5] fun _ => seg [(38, vb true)] [(0, none), (1, none)] [.t true, .t true, .t true, .t true, .t true, .t true, .t true, .t true, .t true, .t true] trivial fun ac wd hS => ?_
 refine hS.opsC 1 [1] [1, 3, 5, 38] fun _ => seg [(39, pt bb3 0)] [(0, none), (1, none)] [.t true] trivial fun ac wd hS => ?_
 refine hS.callG true 16 #[pt bb3 0] (bu_Base bb3 b'1 8 _ (hS.mem.get 1 bb3 (.fn 0 12 (roF [pt b'1 0, vi 1, vi ((8 : Nat) : Int), pt b'1 0, vi 0, vi 256, pt b'1 0, vi 0, vi 88, pt b'1 0, vi 257, vi ((8 : Nat) : Int)]))) ) ?_
 rintro _ wd ⟨rfl, hF⟩
 refine ⟨vi 1, rfl, ?_⟩
 replace hS := (hS.to (hS.mem.keep0 hF)).put (d := 40) (v := vi 1) (by decide)
 clear hF
 refine hS.opsC 11 [1, 70, 0, 1, 1, 70, 0, 1, 1, 70, 0] [1] fun _ => seg [(51, vb true)] [(0, none), (1, none)] [.t true, .t true, .t true, .t true, .t true, .t true, .t true, .t true] trivial fun ac wd hS => ?_
 refine hS.opsC 1 [1] [51] fun _ => seg [(52, pt bb3 0)] [(0, none), (1, none)] [.t true] trivial fun ac wd hS => ?_
 refine hS.callG true 24 #[pt bb3 0] (bu_Grown b'1 F25 mo22 bb3 8 3 r221 q223 Q224 _ (hS.mem.res 0) (hS.mem.get 1 bb3 (.fn 0 12 (roF [pt b'1 0, vi 1, vi ((8 : Nat) : Int), pt b'1 0, vi 0, vi 256, pt b'1 0, vi 0, vi 88, pt b'1 0, vi 257, vi ((8 : Nat) : Int)]))) (by exact hBb)) ?_
 rintro _ wd ⟨rfl, hF⟩
 refine ⟨vi (3 : Int), rfl, ?_⟩
 replace hS := (hS.to (hS.mem.keep0 hF)).put (d := 53) (v := vi (3 : Int)) (by decide)
 clear hF
 refine hS.opsC 3 [1, 70, 0] [] fun _ => seg [(0, vb (((3 : Int) : Int) == 3))] [(0, none)] [.t true, .t true] trivial fun ac wd hS => ?_
 refine list_nil_seq ?_
 refine wp_ret ?_
 refine St.retC 0 hS (vb (((3 : Int) : Int) == 3)) [] trivial fun hw => ?_
 refine ⟨retd (vbool ?_), hw.fr0⟩
 all_goals (first | rfl | decide)

end Go.Proofs.YtojjkjedcafpeaaGreatDoor.K
