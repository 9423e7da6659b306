/-
  Walks, printed by w2.py.
-/
import Derived.Test.YtojjkjedcafpeaaGreatDoorFi
import Derived.Test.YtojjkjedcafpeaaGreatDoorZa
import Derived.Test.YtojjkjedcafpeaaGreatDoorLj
import Derived.Test.YtojjkjedcafpeaaGreatDoorProg
namespace Go.Proofs.YtojjkjedcafpeaaGreatDoor.K
set_option linter.unusedVariables false
set_option linter.unusedSimpArgs false

set_option maxRecDepth 100000 in
set_option maxHeartbeats 1000000 in
theorem ix_runs (ao1 : Option Addr) (c1 : Nat) (g1 : Nat) (o1 : Nat) (l : List (Int × Int × Bool)) (a : Int) (k : Int) (bb : Bool) (w : World) (hh0 : HE.holds w g1 (.fn o1 (o1 + l.length * 3) (rnV (gtD l) o1))) (hv1 : (l.length = 0 ∨ ao1 = some ⟨g1, o1, none⟩)) (hl : l.length ≤ 4294967295) :
    Calls Tryz.prog 79 #[.slice ao1 l.length c1, .agg #[vi a, vi k, vb bb]] w fun e w' => ∃ (ix : Int), e = .returned (vi ix) ∧ decide (0 ≤ ix) = inR l a k bb ∧ (-1 ≤ ix ∧ ix ≤ 4294967295) ∧ Fr w w' no no := by
 refine enter (args := [.slice ao1 l.length c1, .agg #[vi a, vi k, vb bb]]) (D := no) (A := []) Tryz.func79 rfl 19 rfl [(g1, .fn o1 (o1 + l.length * 3) (rnV (gtD l) o1))] (WS.startL ⟨⟨rfl, hh0⟩, trivial⟩) fun ac hS => ?_
 refine hS.regS [0, 0] [0] fun ν1 => seg [(3, pt (ν1 0) 0)] [(0, none), (1, some ((ν1 0), .cells [vi a, vi k, vb bb] 41))] [] trivial fun ac wd hS => ?_
 refine wp_seq ?_
 refine hS.regS [0, 0, 0] [0, 3] fun _ => seg [(7, vi ((l.length : Nat) : Int)), (8, vi 0)] [(0, none), (1, none)] [] trivial fun ac wd hS => ?_
 refine wp_block ?_
 refine St.loopC (σ := Int) (fun (x8 : Int) => ⟨[(0, [], .slice ao1 l.length c1), (3, [], pt (ν1 0) 0), (7, [], vi ((l.length : Nat) : Int)), (8, [], vi x8)], [(g1, .fn o1 (o1 + l.length * 3) (rnV (gtD l) o1)), ((ν1 0), .cells [vi a, vi k, vb bb] 41)], [], (0 ≤ x8 ∧ x8 ≤ (l.length : Int)) ∧ (inR (l.take (Int.toNat x8)) a k bb = false) ∧ True, l.length - Int.toNat x8⟩) 0 ⟨(by first | omega | exact inR_0 _ _ _ _), (by first | omega | exact inR_0 _ _ _ _), trivial⟩ hS ?_
 clear hS
 rintro x8 ⟨i0, i1, -⟩ ac wd hS
 replace i0 : 0 ≤ x8 ∧ x8 ≤ (l.length : Int) := i0
 replace i1 : inR (l.take (Int.toNat x8)) a k bb = false := i1
 refine hS.regS [0] [0, 3, 7, 8] fun _ => seg [(9, vb (decide ((x8 : Int) < ((l.length : Nat) : Int))))] [(0, none), (1, none)] [] trivial fun ac wd hS => ?_
 refine wp_seq ?_
 refine hS.condC (decide ((x8 : Int) < ((l.length : Nat) : Int))) (fun hb1o hb1 => ?_) (fun hb1o hb1 => ?_)
 ·
  refine wp_skip ?_
  refine pop_then ?_
  refine wp_seq ?_
  refine wp_block ?_
  refine hS.regS [0, 0] [0, 3, 7, 8] fun _ => seg [(5, vi x8)] [(0, none), (1, none)] [] trivial fun ac wd hS => ?_
  obtain rfl : ao1 = some ⟨g1, o1, none⟩ := Or.resolve_left hv1 (by omega)
  refine St.ordBeginS [(0, 1), (1, 1), (2, 1), (3, 1), (4, 1), (5, 0)] [(g1, .fn o1 (o1 + l.length * 3) (rnV (gtD l) o1)), ((ν1 0), .cells [vi a, vi k, vb bb] 41)] [0, 1] hS fun wd hS => ?_
  have hap := hS.mem.pairs (Hf := [(g1, .fn o1 (o1 + l.length * 3) (rnV (gtD l) o1)), ((ν1 0), .cells [vi a, vi k, vb bb] 41)]) (l := [0, 1])
  refine St.ordF [100, 0, 0, 20, fx 0 (.agg #[vi (((gtD l) (Int.toNat x8)).1), vi (((gtD l) (Int.toNat x8)).2.1), vb (((gtD l) (Int.toNat x8)).2.2)])] [0, 1, 2, 3, 4] [0, 3, 5, 7, 8] (rest := [(5, 0)]) hS hap <| segF [(11, .agg #[vi a, vi k, vb bb]), (15, .agg #[vi (((gtD l) (Int.toNat x8)).1), vi (((gtD l) (Int.toNat x8)).2.1), vb (((gtD l) (Int.toNat x8)).2.2)])] [.p ((.agg #[((rnV (gtD l) o1) (o1 + Int.toNat x8 * 3)), ((rnV (gtD l) o1) (o1 + Int.toNat x8 * 3 + 1)), ((rnV (gtD l) o1) (o1 + Int.toNat x8 * 3 + 2))] : Value) = .agg #[vi (((gtD l) (Int.toNat x8)).1), vi (((gtD l) (Int.toNat x8)).2.1), vb (((gtD l) (Int.toNat x8)).2.2)]), .e g1, .p (o1 ≤ o1 + Int.toNat x8 * 3 + 2 ∧ o1 + Int.toNat x8 * 3 + 2 < (o1 + l.length * 3)), .e g1, .p (o1 ≤ o1 + Int.toNat x8 * 3 + 1 ∧ o1 + Int.toNat x8 * 3 + 1 < (o1 + l.length * 3)), .e g1, .p (o1 ≤ o1 + Int.toNat x8 * 3 ∧ o1 + Int.toNat x8 * 3 < (o1 + l.length * 3)), .p ((0 : Int) ≤ x8 ∧ (x8 : Int) < ((l.length : Nat) : Int)), .e (ν1 0), .e (ν1 0), .e (ν1 0)] ⟨(agg3 (rnV_0 (gtD l) o1 (Int.toNat x8)) (rnV_1 (gtD l) o1 (Int.toNat x8)) (rnV_2 (gtD l) o1 (Int.toNat x8))), (by omega), (by omega), (by omega), (by omega), trivial⟩ fun ac hS => ?_
  refine Runs1.ord (i := 5) ?_
  refine St.binS hS .eql (.tmp 11) (.tmp 15) 41 41 rfl rfl (by decide) (xs := #[vi a, vi k, vb bb]) (ys := #[vi (((gtD l) (Int.toNat x8)).1), vi (((gtD l) (Int.toNat x8)).2.1), vb (((gtD l) (Int.toNat x8)).2.2)]) (r := vb (bAll [((a : Int) == (((gtD l) (Int.toNat x8)).1 : Int)), ((k : Int) == (((gtD l) (Int.toNat x8)).2.1 : Int)), (bb == (((gtD l) (Int.toNat x8)).2.2))])) (fun w => run_eqF (l := [((a : Int) == (((gtD l) (Int.toNat x8)).1 : Int)), ((k : Int) == (((gtD l) (Int.toNat x8)).2.1 : Int)), (bb == (((gtD l) (Int.toNat x8)).2.2))]) w (by as_aux_lemma => kernel_rfl) (by as_aux_lemma => kernel_rfl) (by as_aux_lemma => kernel_rfl)) (by as_aux_lemma => kernel_rfl) fun ac hS => ?_
  refine hS.ordV (l := [0, 1]) ?_
  refine ord_nil ?_
  refine hS.condC (bAll [((a : Int) == (((gtD l) (Int.toNat x8)).1 : Int)), ((k : Int) == (((gtD l) (Int.toNat x8)).2.1 : Int)), (bb == (((gtD l) (Int.toNat x8)).2.2))]) (fun hb2o hb2 => ?_) (fun hb2o hb2 => ?_)
  ·
   have hn := hb2o
   refine hS.regS [0, 0] [] fun _ => seg [(4, vi x8)] [] [] trivial fun ac wd hS => ?_
   refine wp_ret ?_
   refine pop_block_ret ?_
   refine pop_then_ret ?_
   refine pop_then_ret ?_
   refine pop_block_ret ?_
   refine pop_then_ret ?_
   refine St.retC 0 hS (vi x8) [] trivial fun hw => ?_
   refine ⟨x8, retd rfl, ?_, ?_, hw.fr0⟩
   all_goals (first | rfl | omega | exact inR_y i0.1 (by omega) hn | exact inR_n i1 (by omega))
  ·
   have hn := hb2o
   refine wp_skip ?_
   refine pop_block ?_
   refine pop_then ?_
   refine hS.regC [20, 0] [0, 3, 7] fun _ => seg [(8, vi (x8 + 1))] [(0, none), (1, none)] [.p (fit .i64 (x8 + 1))] ⟨fit_i64 (by omega), trivial⟩ fun ac wd hS => ?_
   exact pop_then (hS.next (x8 + 1) ⟨(by first | omega | assumption | (simp; done) | (simp; omega)), (by exact inR_st i1 i0.1 (by omega) hn), trivial⟩ (by dsimp only; omega))
 ·
  refine wp_exit ?_
  refine pop_then_exit ?_
  refine pop_then_exit ?_
  refine pop_block_hit ?_
  refine pop_then ?_
  refine hS.regS [0] [] fun _ => seg [(4, vi (-1))] [] [] trivial fun ac wd hS => ?_
  refine wp_ret ?_
  refine St.retC 0 hS (vi (-1)) [] trivial fun hw => ?_
  refine ⟨(-1), retd rfl, ?_, ?_, hw.fr0⟩
  all_goals (first | rfl | omega | exact inR_y i0.1 (by omega) hn | exact inR_n i1 (by omega))

set_option maxRecDepth 100000 in
set_option maxHeartbeats 1000000 in
theorem cn_runs (ao1 : Option Addr) (c1 : Nat) (g1 : Nat) (o1 : Nat) (l : List (Int × Int × Bool)) (a : Int) (k : Int) (bb : Bool) (w : World) (hh0 : HE.holds w g1 (.fn o1 (o1 + l.length * 3) (rnV (gtD l) o1))) (hv1 : (l.length = 0 ∨ ao1 = some ⟨g1, o1, none⟩)) (hl : l.length ≤ 4294967295) :
    Calls Tryz.prog 29 #[.slice ao1 l.length c1, .agg #[vi a, vi k, vb bb]] w fun e w' => e = .returned (vb (inR l a k bb)) ∧ Fr w w' no no := by
 refine enter (args := [.slice ao1 l.length c1, .agg #[vi a, vi k, vb bb]]) (D := no) (A := []) Tryz.func29 rfl 9 rfl [(g1, .fn o1 (o1 + l.length * 3) (rnV (gtD l) o1))] (WS.startL ⟨⟨rfl, hh0⟩, trivial⟩) fun ac hS => ?_
 refine hS.regS [0, 0] [0] fun ν1 => seg [(3, pt (ν1 0) 0)] [(0, none), (1, some ((ν1 0), .cells [vi a, vi k, vb bb] 41))] [] trivial fun ac wd hS => ?_
 refine wp_region_seq ?_
 refine hS.opsC 2 [0, 100] [] fun _ => seg [(5, .slice ao1 l.length c1), (6, .agg #[vi a, vi k, vb bb])] [(0, none)] [.e (ν1 0), .e (ν1 0), .e (ν1 0)] trivial fun ac wd hS => ?_
 refine hS.callC 79 #[.slice ao1 l.length c1, .agg #[vi a, vi k, vb bb]] (ix_runs ao1 c1 g1 o1 l a k bb _ (hS.mem.get 0 g1 (.fn o1 (o1 + l.length * 3) (rnV (gtD l) o1))) hv1 (by first | assumption | omega | (simp_all; done) | (simp_all; omega))) ?_
 rintro _ wd ⟨ix1, rfl, hix2, hib3, hF⟩
 refine ⟨vi ix1, rfl, ?_⟩
 replace hS := (hS.to (hS.mem.keep0 hF)).put (d := 7) (v := vi ix1) (by decide)
 clear hF
 refine hS.opsC 2 [0, 0] [] fun _ => seg [(4, vb (decide ((0 : Int) ≤ ix1)))] [] [] trivial fun ac wd hS => ?_
 refine list_nil_seq ?_
 refine wp_ret ?_
 refine St.retC 0 hS (vb (decide ((0 : Int) ≤ ix1))) [] trivial fun hw => ?_
 refine ⟨retd (vbool ?_), hw.fr0⟩
 all_goals (first | rfl | assumption)

end Go.Proofs.YtojjkjedcafpeaaGreatDoor.K
