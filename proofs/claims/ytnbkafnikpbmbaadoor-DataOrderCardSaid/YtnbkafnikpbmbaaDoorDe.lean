/-
  Walks, printed by w2.py.
-/
import Derived.Test.YtnbkafnikpbmbaaDoorDc
import Derived.Test.YtnbkafnikpbmbaaDoorDv
import Derived.Test.YtnbkafnikpbmbaaDoorFe
import Derived.Test.YtnbkafnikpbmbaaDoorOb
import Derived.Test.YtnbkafnikpbmbaaDoorGe
import Derived.Test.YtnbkafnikpbmbaaDoorLk
import Derived.Test.YtnbkafnikpbmbaaDoorProg
namespace Go.Proofs.YtnbkafnikpbmbaaDoor.K
set_option linter.unusedVariables false
set_option linter.unusedSimpArgs false

set_option maxRecDepth 100000 in
set_option maxHeartbeats 1000000 in
theorem eq_strings (ao1 : Option Addr) (c1 : Nat) (g1 : Nat) (o1 : Nat) (l : List (ByteArray)) (ao2 : Option Addr) (c2 : Nat) (g2 : Nat) (o2 : Nat) (w : World) (hh0 : HE.holds w g1 (.fn o1 (o1 + l.length) (s1V (gtD l) o1))) (hh1 : HE.holds w g2 (.fn o2 (o2 + l.length) (s1V (gtD l) o2))) (hv1 : (l.length = 0 ∨ ao1 = some ⟨g1, o1, none⟩)) (hv2 : (l.length = 0 ∨ ao2 = some ⟨g2, o2, none⟩)) (hl : l.length ≤ 4294967295) :
    Calls Tryd.prog 73 #[.slice ao1 l.length c1, .slice ao2 l.length c2] w fun e w' => e = .returned (vb true) ∧ Fr w w' no no := by
 refine enter (args := [.slice ao1 l.length c1, .slice ao2 l.length c2]) (D := no) (A := []) Tryd.func73 rfl 26 rfl [(g1, .fn o1 (o1 + l.length) (s1V (gtD l) o1)), (g2, .fn o2 (o2 + l.length) (s1V (gtD l) o2))] (WS.startL ⟨⟨rfl, hh0⟩, ⟨rfl, hh1⟩, trivial⟩) fun ac hS => ?_
 refine hS.regS [0] [0, 1] fun _ => seg [] [(0, none), (1, none)] [] trivial fun ac wd hS => ?_
 refine wp_seq ?_
 refine hS.regS [0, 0, 0, 0, fx 0 (vb false)] [0, 1] fun _ => seg [(10, vb false)] [(0, none), (1, none)] [.p ((vb ((((l.length : Nat) : Int) : Int) != ((l.length : Nat) : Int)) : Value) = vb false)] ⟨(congrArg Value.bool (bne_self_eq_false _)), trivial⟩ fun ac wd hS => ?_
 refine hS.condF ?_
 refine wp_skip ?_
 refine pop_then ?_
 refine wp_seq ?_
 refine hS.regS [0, 0, 0] [0, 1] fun _ => seg [(12, vi ((l.length : Nat) : Int)), (13, vi 0)] [(0, none), (1, none)] [] trivial fun ac wd hS => ?_
 refine wp_block ?_
 refine St.loopC (σ := Int) (fun (x13 : Int) => ⟨[(0, [], .slice ao1 l.length c1), (1, [], .slice ao2 l.length c2), (12, [], vi ((l.length : Nat) : Int)), (13, [], vi x13)], [(g1, .fn o1 (o1 + l.length) (s1V (gtD l) o1)), (g2, .fn o2 (o2 + l.length) (s1V (gtD l) o2))], [], (0 ≤ x13 ∧ x13 ≤ (l.length : Int)) ∧ True, l.length - Int.toNat x13⟩) 0 ⟨(by omega), trivial⟩ hS ?_
 clear hS
 rintro x13 ⟨i0, -⟩ ac wd hS
 replace i0 : 0 ≤ x13 ∧ x13 ≤ (l.length : Int) := i0
 refine hS.regS [0] [0, 1, 12, 13] fun _ => seg [(14, vb (decide ((x13 : Int) < ((l.length : Nat) : Int))))] [(0, none), (1, none)] [] trivial fun ac wd hS => ?_
 refine wp_seq ?_
 refine hS.condC (decide ((x13 : Int) < ((l.length : Nat) : Int))) (fun hb1o hb1 => ?_) (fun hb1o hb1 => ?_)
 ·
  refine wp_skip ?_
  refine pop_then ?_
  refine wp_seq ?_
  refine wp_block ?_
  refine hS.regS [0, 0] [0, 1, 12, 13] fun _ => seg [(5, vi x13)] [(0, none), (1, none)] [] trivial fun ac wd hS => ?_
  obtain rfl : ao1 = some ⟨g1, o1, none⟩ := Or.resolve_left hv1 (by omega)
  obtain rfl : ao2 = some ⟨g2, o2, none⟩ := Or.resolve_left hv2 (by omega)
  refine hS.drawS [0, 0, 20, fx 0 (.string ((gtD l) (Int.toNat x13))), 0, 0, 20, fx 100 (.string ((gtD l) (Int.toNat x13))), fx 0 (vb false)] [0, 1, 12, 13] <| seg [(24, vb false)] [(0, none), (1, none)] [.p ((vb (!(ByteArray.toList ((gtD l) (Int.toNat x13)) == ByteArray.toList ((gtD l) (Int.toNat x13)))) : Value) = vb false), .p ((((s1V (gtD l) o2) (o2 + Int.toNat x13 * 1)) : Value) = .string ((gtD l) (Int.toNat x13))), .e g2, .p (o2 ≤ o2 + Int.toNat x13 * 1 ∧ o2 + Int.toNat x13 * 1 < (o2 + l.length)), .p ((0 : Int) ≤ x13 ∧ (x13 : Int) < ((l.length : Nat) : Int)), .p ((((s1V (gtD l) o1) (o1 + Int.toNat x13 * 1)) : Value) = .string ((gtD l) (Int.toNat x13))), .e g1, .p (o1 ≤ o1 + Int.toNat x13 * 1 ∧ o1 + Int.toNat x13 * 1 < (o1 + l.length)), .p ((0 : Int) ≤ x13 ∧ (x13 : Int) < ((l.length : Nat) : Int))] ⟨(congrArg Value.bool (by simp)), ((s1V_0 (gtD l) o2 (Int.toNat x13))), (by omega), (by omega), ((s1V_0 (gtD l) o1 (Int.toNat x13))), (by omega), (by omega), trivial⟩ fun ac wd hS => ?_
  refine hS.condF ?_
  refine wp_skip ?_
  refine pop_block ?_
  refine pop_then ?_
  refine hS.regC [20, 0] [0, 1, 12] fun _ => seg [(13, vi (x13 + 1))] [(0, none), (1, none)] [.p (fit .i64 (x13 + 1))] ⟨fit_i64 (by omega), trivial⟩ fun ac wd hS => ?_
  exact pop_then (hS.next (x13 + 1) ⟨(by first | omega | assumption | (simp; done) | (simp; omega)), trivial⟩ (by dsimp only; omega))
 ·
  refine wp_exit ?_
  refine pop_then_exit ?_
  refine pop_then_exit ?_
  refine pop_block_hit ?_
  refine pop_then ?_
  refine hS.regS [0] [] fun _ => seg [(4, vb true)] [] [] trivial fun ac wd hS => ?_
  refine wp_ret ?_
  refine St.retC 0 hS (vb true) [] trivial fun hw => ?_
  refine ⟨retd rfl, hw.fr0⟩

set_option maxRecDepth 100000 in
set_option maxHeartbeats 1000000 in
theorem eq_items (ao1 : Option Addr) (c1 : Nat) (g1 : Nat) (o1 : Nat) (l : List (ByteArray × Int)) (ao2 : Option Addr) (c2 : Nat) (g2 : Nat) (o2 : Nat) (w : World) (hh0 : HE.holds w g1 (.fn o1 (o1 + l.length * 2) (itV (gtD l) o1))) (hh1 : HE.holds w g2 (.fn o2 (o2 + l.length * 2) (itV (gtD l) o2))) (hv1 : (l.length = 0 ∨ ao1 = some ⟨g1, o1, none⟩)) (hv2 : (l.length = 0 ∨ ao2 = some ⟨g2, o2, none⟩)) (hl : l.length ≤ 4294967295) :
    Calls Tryd.prog 158 #[.slice ao1 l.length c1, .slice ao2 l.length c2] w fun e w' => e = .returned (vb true) ∧ Fr w w' no no := by
 refine enter (args := [.slice ao1 l.length c1, .slice ao2 l.length c2]) (D := no) (A := []) Tryd.func158 rfl 26 rfl [(g1, .fn o1 (o1 + l.length * 2) (itV (gtD l) o1)), (g2, .fn o2 (o2 + l.length * 2) (itV (gtD l) o2))] (WS.startL ⟨⟨rfl, hh0⟩, ⟨rfl, hh1⟩, trivial⟩) fun ac hS => ?_
 refine hS.regS [0] [0, 1] fun _ => seg [] [(0, none), (1, none)] [] trivial fun ac wd hS => ?_
 refine wp_seq ?_
 refine hS.regS [0, 0, 0, 0, fx 0 (vb false)] [0, 1] fun _ => seg [(10, vb false)] [(0, none), (1, none)] [.p ((vb ((((l.length : Nat) : Int) : Int) != ((l.length : Nat) : Int)) : Value) = vb false)] ⟨(congrArg Value.bool (bne_self_eq_false _)), trivial⟩ fun ac wd hS => ?_
 refine hS.condF ?_
 refine wp_skip ?_
 refine pop_then ?_
 refine wp_seq ?_
 refine hS.regS [0, 0, 0] [0, 1] fun _ => seg [(12, vi ((l.length : Nat) : Int)), (13, vi 0)] [(0, none), (1, none)] [] trivial fun ac wd hS => ?_
 refine wp_block ?_
 refine St.loopC (σ := Int) (fun (x13 : Int) => ⟨[(0, [], .slice ao1 l.length c1), (1, [], .slice ao2 l.length c2), (12, [], vi ((l.length : Nat) : Int)), (13, [], vi x13)], [(g1, .fn o1 (o1 + l.length * 2) (itV (gtD l) o1)), (g2, .fn o2 (o2 + l.length * 2) (itV (gtD l) o2))], [], (0 ≤ x13 ∧ x13 ≤ (l.length : Int)) ∧ True, l.length - Int.toNat x13⟩) 0 ⟨(by omega), trivial⟩ hS ?_
 clear hS
 rintro x13 ⟨i0, -⟩ ac wd hS
 replace i0 : 0 ≤ x13 ∧ x13 ≤ (l.length : Int) := i0
 refine hS.regS [0] [0, 1, 12, 13] fun _ => seg [(14, vb (decide ((x13 : Int) < ((l.length : Nat) : Int))))] [(0, none), (1, none)] [] trivial fun ac wd hS => ?_
 refine wp_seq ?_
 refine hS.condC (decide ((x13 : Int) < ((l.length : Nat) : Int))) (fun hb1o hb1 => ?_) (fun hb1o hb1 => ?_)
 ·
  refine wp_skip ?_
  refine pop_then ?_
  refine wp_seq ?_
  refine wp_block ?_
  refine hS.regS [0, 0] [0, 1, 12, 13] fun _ => seg [(5, vi x13)] [(0, none), (1, none)] [] trivial fun ac wd hS => ?_
  obtain rfl : ao1 = some ⟨g1, o1, none⟩ := Or.resolve_left hv1 (by omega)
  obtain rfl : ao2 = some ⟨g2, o2, none⟩ := Or.resolve_left hv2 (by omega)
  refine St.ordBeginS [(0, 1), (1, 1), (2, 1), (3, 1), (4, 1), (5, 1), (6, 1), (7, 1), (8, 0)] [(g1, .fn o1 (o1 + l.length * 2) (itV (gtD l) o1)), (g2, .fn o2 (o2 + l.length * 2) (itV (gtD l) o2))] [0, 1] hS fun wd hS => ?_
  have hap := hS.mem.pairs (Hf := [(g1, .fn o1 (o1 + l.length * 2) (itV (gtD l) o1)), (g2, .fn o2 (o2 + l.length * 2) (itV (gtD l) o2))]) (l := [0, 1])
  refine St.ordF [0, 0, 20, fx 0 (.agg #[.string (((gtD l) (Int.toNat x13)).1), vu (((gtD l) (Int.toNat x13)).2)]), 0, 0, 20, fx 100 (.agg #[.string (((gtD l) (Int.toNat x13)).1), vu (((gtD l) (Int.toNat x13)).2)])] [0, 1, 2, 3, 4, 5, 6, 7] [0, 1, 12, 13] (rest := [(8, 0)]) hS hap <| segF [(19, .agg #[.string (((gtD l) (Int.toNat x13)).1), vu (((gtD l) (Int.toNat x13)).2)]), (23, .agg #[.string (((gtD l) (Int.toNat x13)).1), vu (((gtD l) (Int.toNat x13)).2)])] [.p ((.agg #[((itV (gtD l) o2) (o2 + Int.toNat x13 * 2)), ((itV (gtD l) o2) (o2 + Int.toNat x13 * 2 + 1))] : Value) = .agg #[.string (((gtD l) (Int.toNat x13)).1), vu (((gtD l) (Int.toNat x13)).2)]), .e g2, .p (o2 ≤ o2 + Int.toNat x13 * 2 + 1 ∧ o2 + Int.toNat x13 * 2 + 1 < (o2 + l.length * 2)), .e g2, .p (o2 ≤ o2 + Int.toNat x13 * 2 ∧ o2 + Int.toNat x13 * 2 < (o2 + l.length * 2)), .p ((0 : Int) ≤ x13 ∧ (x13 : Int) < ((l.length : Nat) : Int)), .p ((.agg #[((itV (gtD l) o1) (o1 + Int.toNat x13 * 2)), ((itV (gtD l) o1) (o1 + Int.toNat x13 * 2 + 1))] : Value) = .agg #[.string (((gtD l) (Int.toNat x13)).1), vu (((gtD l) (Int.toNat x13)).2)]), .e g1, .p (o1 ≤ o1 + Int.toNat x13 * 2 + 1 ∧ o1 + Int.toNat x13 * 2 + 1 < (o1 + l.length * 2)), .e g1, .p (o1 ≤ o1 + Int.toNat x13 * 2 ∧ o1 + Int.toNat x13 * 2 < (o1 + l.length * 2)), .p ((0 : Int) ≤ x13 ∧ (x13 : Int) < ((l.length : Nat) : Int))] ⟨(agg2 (itV_0 (gtD l) o2 (Int.toNat x13)) (itV_1 (gtD l) o2 (Int.toNat x13))), (by omega), (by omega), (by omega), (agg2 (itV_0 (gtD l) o1 (Int.toNat x13)) (itV_1 (gtD l) o1 (Int.toNat x13))), (by omega), (by omega), (by omega), trivial⟩ fun ac hS => ?_
  refine Runs1.ord (i := 8) ?_
  refine St.binS hS .neq (.tmp 19) (.tmp 23) 133 133 rfl rfl (by decide) (xs := #[.string (((gtD l) (Int.toNat x13)).1), vu (((gtD l) (Int.toNat x13)).2)]) (ys := #[.string (((gtD l) (Int.toNat x13)).1), vu (((gtD l) (Int.toNat x13)).2)]) (r := vb false) (fun w => run_neSame w (by as_aux_lemma => kernel_rfl) (by as_aux_lemma => kernel_rfl) (by as_aux_lemma => kernel_rfl)) (by as_aux_lemma => kernel_rfl) fun ac hS => ?_
  refine hS.ordV (l := [0, 1]) ?_
  refine ord_nil ?_
  refine hS.condF ?_
  refine wp_skip ?_
  refine pop_block ?_
  refine pop_then ?_
  refine hS.regC [20, 0] [0, 1, 12] fun _ => seg [(13, vi (x13 + 1))] [(0, none), (1, none)] [.p (fit .i64 (x13 + 1))] ⟨fit_i64 (by omega), trivial⟩ fun ac wd hS => ?_
  exact pop_then (hS.next (x13 + 1) ⟨(by first | omega | assumption | (simp; done) | (simp; omega)), trivial⟩ (by dsimp only; omega))
 ·
  refine wp_exit ?_
  refine pop_then_exit ?_
  refine pop_then_exit ?_
  refine pop_block_hit ?_
  refine pop_then ?_
  refine hS.regS [0] [] fun _ => seg [(4, vb true)] [] [] trivial fun ac wd hS => ?_
  refine wp_ret ?_
  refine St.retC 0 hS (vb true) [] trivial fun hw => ?_
  refine ⟨retd rfl, hw.fr0⟩

set_option maxRecDepth 100000 in
set_option maxHeartbeats 1000000 in
theorem s_Index (ao1 : Option Addr) (c1 : Nat) (g1 : Nat) (o1 : Nat) (l : List (ByteArray)) (key : ByteArray) (w : World) (hh0 : HE.holds w g1 (.fn o1 (o1 + l.length) (s1V (gtD l) o1))) (hv1 : (l.length = 0 ∨ ao1 = some ⟨g1, o1, none⟩)) (hl4 : l.length ≤ 4294967296) :
    Calls Tryd.prog 71 #[.slice ao1 l.length c1, .string key] w fun e w' => e = .returned (vi (sOf l key)) ∧ Fr w w' no no := by
 refine enter (args := [.slice ao1 l.length c1, .string key]) (D := no) (A := []) Tryd.func71 rfl 19 rfl [(g1, .fn o1 (o1 + l.length) (s1V (gtD l) o1))] (WS.startL ⟨⟨rfl, hh0⟩, trivial⟩) fun ac hS => ?_
 refine hS.regS [0] [0, 1] fun _ => seg [] [(0, none)] [] trivial fun ac wd hS => ?_
 refine wp_seq ?_
 refine hS.regS [0, 0, 0] [0, 1] fun _ => seg [(7, vi ((l.length : Nat) : Int)), (8, vi 0)] [(0, none)] [] trivial fun ac wd hS => ?_
 refine wp_block ?_
 refine St.loopC (σ := Int) (fun (x8 : Int) => ⟨[(0, [], .slice ao1 l.length c1), (1, [], .string key), (7, [], vi ((l.length : Nat) : Int)), (8, [], vi x8)], [(g1, .fn o1 (o1 + l.length) (s1V (gtD l) o1))], [], (0 ≤ x8 ∧ x8 ≤ (l.length : Int)) ∧ (NoUp (sIs l key) x8) ∧ True, l.length - Int.toNat x8⟩) 0 ⟨(by first | omega | exact noUp_zero _), (by first | omega | exact noUp_zero _), trivial⟩ hS ?_
 clear hS
 rintro x8 ⟨i0, i1, -⟩ ac wd hS
 replace i0 : 0 ≤ x8 ∧ x8 ≤ (l.length : Int) := i0
 replace i1 : NoUp (sIs l key) x8 := i1
 refine hS.regS [0] [0, 1, 7, 8] fun _ => seg [(9, vb (decide ((x8 : Int) < ((l.length : Nat) : Int))))] [(0, none)] [] trivial fun ac wd hS => ?_
 refine wp_seq ?_
 refine hS.condC (decide ((x8 : Int) < ((l.length : Nat) : Int))) (fun hb1o hb1 => ?_) (fun hb1o hb1 => ?_)
 ·
  refine wp_skip ?_
  refine pop_then ?_
  refine wp_seq ?_
  refine wp_block ?_
  refine hS.regS [0, 0] [0, 1, 7, 8] fun _ => seg [(5, vi x8)] [(0, none)] [] trivial fun ac wd hS => ?_
  obtain rfl : ao1 = some ⟨g1, o1, none⟩ := Or.resolve_left hv1 (by omega)
  refine hS.regS [0, 0, 0, 20, fx 0 (.string ((gtD l) (Int.toNat x8))), 0] [0, 1, 5, 7, 8] fun _ => seg [(16, vb (ByteArray.toList key == ByteArray.toList ((gtD l) (Int.toNat x8))))] [(0, none)] [.p ((((s1V (gtD l) o1) (o1 + Int.toNat x8 * 1)) : Value) = .string ((gtD l) (Int.toNat x8))), .e g1, .p (o1 ≤ o1 + Int.toNat x8 * 1 ∧ o1 + Int.toNat x8 * 1 < (o1 + l.length)), .p ((0 : Int) ≤ x8 ∧ (x8 : Int) < ((l.length : Nat) : Int))] ⟨((s1V_0 (gtD l) o1 (Int.toNat x8))), (by omega), (by omega), trivial⟩ fun ac wd hS => ?_
  refine hS.condC (ByteArray.toList key == ByteArray.toList ((gtD l) (Int.toNat x8))) (fun hb2o hb2 => ?_) (fun hb2o hb2 => ?_)
  ·
   have hn : sIs l key (Int.toNat x8) = true := hb2o
   refine hS.regS [0, 0] [] fun _ => seg [(4, vi x8)] [] [] trivial fun ac wd hS => ?_
   refine wp_ret ?_
   refine pop_block_ret ?_
   refine pop_then_ret ?_
   refine pop_then_ret ?_
   refine pop_block_ret ?_
   refine pop_then_ret ?_
   refine St.retC 0 hS (vi x8) [] trivial fun hw => ?_
   refine ⟨retd (vint ?_), hw.fr0⟩
   all_goals (first | exact fIx_at i1 i0.1 (by omega) hn | exact fIx_none i1 (by omega))
  ·
   have hn : sIs l key (Int.toNat x8) = false := hb2o
   refine wp_skip ?_
   refine pop_block ?_
   refine pop_then ?_
   refine hS.regC [20, 0] [0, 1, 7] fun _ => seg [(8, vi (x8 + 1))] [(0, none)] [.p (fit .i64 (x8 + 1))] ⟨fit_i64 (by omega), trivial⟩ fun ac wd hS => ?_
   exact pop_then (hS.next (x8 + 1) ⟨(by first | omega | assumption | (simp; done) | (simp; omega)), (by exact noUp_step i1 i0.1 hn), trivial⟩ (by dsimp only; omega))
 ·
  refine wp_exit ?_
  refine pop_then_exit ?_
  refine pop_then_exit ?_
  refine pop_block_hit ?_
  refine pop_then ?_
  refine hS.regS [0] [] fun _ => seg [(4, vi (-1))] [] [] trivial fun ac wd hS => ?_
  refine wp_ret ?_
  refine St.retC 0 hS (vi (-1)) [] trivial fun hw => ?_
  refine ⟨retd (vint ?_), hw.fr0⟩
  all_goals (first | exact fIx_at i1 i0.1 (by omega) hn | exact fIx_none i1 (by omega))

set_option maxRecDepth 100000 in
set_option maxHeartbeats 1000000 in
theorem s_Contains (ao1 : Option Addr) (c1 : Nat) (g1 : Nat) (o1 : Nat) (l : List (ByteArray)) (key : ByteArray) (w : World) (hh0 : HE.holds w g1 (.fn o1 (o1 + l.length) (s1V (gtD l) o1))) (hv1 : (l.length = 0 ∨ ao1 = some ⟨g1, o1, none⟩)) (hl4 : l.length ≤ 4294967296) :
    Calls Tryd.prog 72 #[.slice ao1 l.length c1, .string key] w fun e w' => e = .returned (vb (decide ((0 : Int) ≤ (sOf l key)))) ∧ Fr w w' no no := by
 refine enter (args := [.slice ao1 l.length c1, .string key]) (D := no) (A := []) Tryd.func72 rfl 9 rfl [(g1, .fn o1 (o1 + l.length) (s1V (gtD l) o1))] (WS.startL ⟨⟨rfl, hh0⟩, trivial⟩) fun ac hS => ?_
 refine hS.regS [0] [0, 1] fun _ => seg [] [(0, none)] [] trivial fun ac wd hS => ?_
 refine wp_region_seq ?_
 refine hS.opsC 2 [0, 0] [] fun _ => seg [(5, .slice ao1 l.length c1), (6, .string key)] [(0, none)] [] trivial fun ac wd hS => ?_
 refine hS.call0 71 #[.slice ao1 l.length c1, .string key] 7 (s_Index ao1 c1 g1 o1 l key _ (hS.mem.get 0 g1 (.fn o1 (o1 + l.length) (s1V (gtD l) o1))) hv1 (by first | assumption | omega | (simp_all; done) | (simp_all; omega))) fun ac wd hS => ?_
 refine hS.opsC 2 [0, 0] [] fun _ => seg [(4, vb (decide ((0 : Int) ≤ (sOf l key))))] [] [] trivial fun ac wd hS => ?_
 refine list_nil_seq ?_
 refine wp_ret ?_
 refine St.retC 0 hS (vb (decide ((0 : Int) ≤ (sOf l key)))) [] trivial fun hw => ?_
 refine ⟨retd rfl, hw.fr0⟩

set_option maxRecDepth 100000 in
set_option maxHeartbeats 1000000 in
theorem law22_open (n : Int) (w : World) (hn : 0 ≤ n ∧ n ≤ 4056) :
    Calls Tryd.prog 66 #[vi n] w fun e w' => ∃ (b' : Nat) (F' : Nat → Prop), e = .returned (.tuple #[pt b' 0, .agg #[pt b' 0, vi 40, vi n], vb true]) ∧ (arR b' F' (comM (AM.new 1) 0 1)).R w' ∧ Fr w w' no F' := by
 refine enter (args := [vi n]) (D := no) (A := []) Tryd.func66 rfl 27 rfl [] (WS.startL trivial) fun ac hS => ?_
 refine hS.regS [0, 0, 0] [0] fun ν1 => seg [(3, pt (ν1 0) 0)] [(0, some ((ν1 0), .cells [pnil, vi 0, vi 0] 125))] [] trivial fun ac wd hS => ?_
 refine wp_region_seq ?_
 refine hS.callC 26 #[vi 1] (ar_New 1 _  ) ?_
 rintro _ wd ⟨b'1, F2, rfl, hN, hF⟩
 refine ⟨pt b'1 0, rfl, ?_⟩
 replace hS := (hS.to (hS.mem.newA hN hF)).put (d := 9) (v := pt b'1 0) (by decide)
 clear hF
 refine hS.opsC 1 [0] [0, 3] fun _ => seg [(5, pt b'1 0)] [(0, none)] [] trivial fun ac wd hS => ?_
 refine list_nil_seq ?_
 refine wp_region_seq ?_
 refine hS.opsC 1 [0] [0, 3, 5] fun _ => seg [(10, pt b'1 0)] [(0, none)] [] trivial fun ac wd hS => ?_
 refine hS.callC 56 #[pt b'1 0, vi 0, vi 1] (ar_Commit b'1 F2 (AM.new 1) 0 1 _ (hS.mem.res 0) ) ?_
 rintro _ wd ⟨F3, rfl, hA, hF⟩
 refine ⟨vi (comE (AM.new 1) 0 1), rfl, ?_⟩
 replace hS := (hS.to (hS.mem.stepA 0 rfl hA hF)).put (d := 11) (v := vi (comE (AM.new 1) 0 1)) (by decide)
 clear hF
 refine hS.opsC 1 [0] [0, 3, 5] fun _ => seg [(6, vi (comE (AM.new 1) 0 1))] [(0, none)] [] trivial fun ac wd hS => ?_
 refine list_nil_seq ?_
 refine wp_region_seq ?_
 refine hS.opsC 2 [0, 0] [3, 5, 6] fun _ => seg [(13, pt b'1 0), (14, vi n)] [(0, none)] [] trivial fun ac wd hS => ?_
 refine hS.call0 52 #[pt b'1 0, vi 40, vi n] 15 (vw_Of b'1 F3 (comM (AM.new 1) 0 1) 40 n _ (hS.mem.res 0) (by exact page_thr1 (by omega))) fun ac wd hS => ?_
 refine hS.opsC 6 [0, 0, 0, 0, 100, 0] [3, 5, 6] fun ν6 => seg [(7, pt (ν6 0) 0), (8, vi 0)] [(0, none), (1, some ((ν6 0), .cells [pt b'1 0, vi 40, vi n] 72))] [.e (ν6 0), .e (ν6 0), .e (ν6 0)] trivial fun ac wd hS => ?_
 refine list_nil_seq ?_
 refine wp_region_seq ?_
 refine hS.opsC 2 [0, 100] [3, 6, 8] fun _ => seg [(18, pt b'1 0), (19, .agg #[pt b'1 0, vi 40, vi n])] [(0, none)] [.e (ν6 0), .e (ν6 0), .e (ν6 0)] trivial fun ac wd hS => ?_
 refine hS.call0 159 #[.agg #[pt b'1 0, vi 40, vi n]] 20 (d_Open b'1 40 n _  ) fun ac wd hS => ?_
 refine hS.opsC 9 [0, 0, 0, 3, 3, 80, 0, 0, 0] [3] fun _ => seg [(2, pt b'1 0), (4, vb ((((comE (AM.new 1) 0 1) : Int) == 0) && true))] [(0, some ((ν1 0), .cells [pt b'1 0, vi 40, vi n] 125))] [.e (ν1 0), .e (ν1 0), .e (ν1 0)] trivial fun ac wd hS => ?_
 refine list_nil_seq ?_
 refine wp_ret ?_
 refine St.retC 0 hS (.tuple #[pt b'1 0, .agg #[pt b'1 0, vi 40, vi n], vb ((((comE (AM.new 1) 0 1) : Int) == 0) && true)]) [.e (ν1 0), .e (ν1 0), .e (ν1 0)] trivial fun hw => ?_
 refine ⟨b'1, F3, retd (tuple3 rfl rfl (vbool ?_)), (hw.res 0), hw.frA⟩
 all_goals (first | rfl | decide +kernel)

set_option maxRecDepth 100000 in
set_option maxHeartbeats 1000000 in
theorem law22_awake (w : World) (hh0 : HE.holds w 0 (.fn 0 64 dbT)) :
    Calls Tryd.prog 64 #[] w fun e w' => e = .returned (vb true) ∧ Fr w w' no no := by
 have hR0 : DtR (comM (AM.new 1) 0 1) 40 96 [] := DtR.zero (by decide) (by decide) (page_thr1 (by decide)) (comM_zero (fun _ => rfl) 0 1)
 have hR1 := hR0.put (items := [((⟨#[97]⟩ : ByteArray), 1)]) (fun x_ hx_ => by obtain rfl := List.mem_singleton.1 hx_; exact ⟨by decide, by decide⟩)
 have hR2 := hR1.put (items := [((⟨#[98]⟩ : ByteArray), 2)]) (fun x_ hx_ => by obtain rfl := List.mem_singleton.1 hx_; exact ⟨by decide, by decide⟩)
 have hR3 := hR2.put (items := [((⟨#[97]⟩ : ByteArray), 3)]) (fun x_ hx_ => by obtain rfl := List.mem_singleton.1 hx_; exact ⟨by decide, by decide⟩)
 have e3 : (dPutL (96 / 32) (dPutL (96 / 32) (dPutL (96 / 32) ([] : List It) [((⟨#[97]⟩ : ByteArray), 1)]) [((⟨#[98]⟩ : ByteArray), 2)]) [((⟨#[97]⟩ : ByteArray), 3)]) = [((⟨#[97]⟩ : ByteArray), 3), ((⟨#[98]⟩ : ByteArray), 2)] := by decide +kernel
 have hR4 := hR3
 rw [show dPutL (96 / 32) (dPutL (96 / 32) (dPutL (96 / 32) ([] : List It) [((⟨#[97]⟩ : ByteArray), 1)]) [((⟨#[98]⟩ : ByteArray), 2)]) [((⟨#[97]⟩ : ByteArray), 3)] = [((⟨#[97]⟩ : ByteArray), 3), ((⟨#[98]⟩ : ByteArray), 2)] from e3] at hR4
 refine enter (args := []) (D := no) (A := []) Tryd.func64 rfl 37 rfl [(0, .fn 0 64 dbT)] (WS.startL ⟨⟨rfl, hh0⟩, trivial⟩) fun ac hS => ?_
 refine hS.regS [0] [] fun _ => seg [] [(0, none)] [] trivial fun ac wd hS => ?_
 refine wp_region_seq ?_
 refine hS.callC 66 #[vi 96] (law22_open 96 _  (by decide)) ?_
 rintro _ wd ⟨b'1, F2, rfl, hN, hF⟩
 refine ⟨.tuple #[pt b'1 0, .agg #[pt b'1 0, vi 40, vi 96], vb true], rfl, ?_⟩
 replace hS := (hS.to (hS.mem.newA hN hF)).put (d := 5) (v := .tuple #[pt b'1 0, .agg #[pt b'1 0, vi 40, vi 96], vb true]) (by decide)
 clear hF
 refine hS.opsC 8 [0, 0, 0, 0, 0, 0, 100, 0] [] fun ν2 => seg [(2, pt (ν2 0) 0), (3, vb true)] [(0, none), (1, some ((ν2 0), .cells [pt b'1 0, vi 40, vi 96] 125))] [.e (ν2 0), .e (ν2 0), .e (ν2 0)] trivial fun ac wd hS => ?_
 refine list_nil_seq ?_
 refine wp_region_seq ?_
 refine hS.opsC 2 [0, 0] [2, 3] fun _ => seg [(10, vb true)] [(0, none), (1, none)] [] trivial fun ac wd hS => ?_
 refine hS.opsC 1 [101] [2, 3, 10] fun _ => seg [(11, .agg #[pt b'1 0, vi 40, vi 96])] [(0, none), (1, none)] [.t true, .e (ν2 0), .e (ν2 0), .e (ν2 0)] trivial fun ac wd hS => ?_
 refine hS.callG true 68 #[.agg #[pt b'1 0, vi 40, vi 96], .string (⟨#[97]⟩ : ByteArray), vu 1] (d_Set b'1 F2 (comM (AM.new 1) 0 1) 40 96 (⟨#[97]⟩ : ByteArray) 1 ([] : List It) _ (hS.mem.res 0) (hS.mem.get 0 0 (.fn 0 64 dbT)) (hS.mem.nF (g := 0) (r := arR b'1 F2 (comM (AM.new 1) 0 1)) 0 0) (by first | assumption | omega | (simp_all; done) | (simp_all; omega)) (by first | exact hR0 | exact hR1 | exact hR2)) ?_
 rintro _ wd ⟨F3, rfl, hA, hF⟩
 refine ⟨vi ((dPutT (96 / 32) ([] : List It) [((⟨#[97]⟩ : ByteArray), 1)]).2), rfl, ?_⟩
 replace hS := (hS.to (hS.mem.stepA 0 rfl hA hF)).put (d := 12) (v := vi ((dPutT (96 / 32) ([] : List It) [((⟨#[97]⟩ : ByteArray), 1)]).2)) (by decide)
 clear hF
 replace hS := hS.fix 12 (vi 0) (show (vi ((dPutT (96 / 32) ([] : List It) [((⟨#[97]⟩ : ByteArray), 1)]).2) : Value) = vi 0 from (vint (by decide +kernel)))
 refine hS.opsC 3 [1, 70, 0] [2, 3] fun _ => seg [(15, vb true)] [(0, none), (1, none)] [.t true, .t true] trivial fun ac wd hS => ?_
 refine hS.opsC 1 [101] [2, 3, 15] fun _ => seg [(16, .agg #[pt b'1 0, vi 40, vi 96])] [(0, none), (1, none)] [.t true, .e (ν2 0), .e (ν2 0), .e (ν2 0)] trivial fun ac wd hS => ?_
 refine hS.callG true 68 #[.agg #[pt b'1 0, vi 40, vi 96], .string (⟨#[98]⟩ : ByteArray), vu 2] (d_Set b'1 F3 (dPutM (comM (AM.new 1) 0 1) 40 96 ([] : List It) [((⟨#[97]⟩ : ByteArray), 1)]) 40 96 (⟨#[98]⟩ : ByteArray) 2 (dPutL (96 / 32) ([] : List It) [((⟨#[97]⟩ : ByteArray), 1)]) _ (hS.mem.res 0) (hS.mem.get 0 0 (.fn 0 64 dbT)) (hS.mem.nF (g := 0) (r := arR b'1 F3 (dPutM (comM (AM.new 1) 0 1) 40 96 ([] : List It) [((⟨#[97]⟩ : ByteArray), 1)])) 0 0) (by first | assumption | omega | (simp_all; done) | (simp_all; omega)) (by first | exact hR0 | exact hR1 | exact hR2)) ?_
 rintro _ wd ⟨F4, rfl, hA, hF⟩
 refine ⟨vi ((dPutT (96 / 32) (dPutL (96 / 32) ([] : List It) [((⟨#[97]⟩ : ByteArray), 1)]) [((⟨#[98]⟩ : ByteArray), 2)]).2), rfl, ?_⟩
 replace hS := (hS.to (hS.mem.stepA 0 rfl hA hF)).put (d := 17) (v := vi ((dPutT (96 / 32) (dPutL (96 / 32) ([] : List It) [((⟨#[97]⟩ : ByteArray), 1)]) [((⟨#[98]⟩ : ByteArray), 2)]).2)) (by decide)
 clear hF
 replace hS := hS.fix 17 (vi 0) (show (vi ((dPutT (96 / 32) (dPutL (96 / 32) ([] : List It) [((⟨#[97]⟩ : ByteArray), 1)]) [((⟨#[98]⟩ : ByteArray), 2)]).2) : Value) = vi 0 from (vint (by decide +kernel)))
 refine hS.opsC 3 [1, 70, 0] [2, 3] fun _ => seg [(20, vb true)] [(0, none), (1, none)] [.t true, .t true] trivial fun ac wd hS => ?_
 refine hS.opsC 1 [101] [2, 3, 20] fun _ => seg [(21, .agg #[pt b'1 0, vi 40, vi 96])] [(0, none), (1, none)] [.t true, .e (ν2 0), .e (ν2 0), .e (ν2 0)] trivial fun ac wd hS => ?_
 refine hS.callG true 68 #[.agg #[pt b'1 0, vi 40, vi 96], .string (⟨#[97]⟩ : ByteArray), vu 3] (d_Set b'1 F4 (dPutM (dPutM (comM (AM.new 1) 0 1) 40 96 ([] : List It) [((⟨#[97]⟩ : ByteArray), 1)]) 40 96 (dPutL (96 / 32) ([] : List It) [((⟨#[97]⟩ : ByteArray), 1)]) [((⟨#[98]⟩ : ByteArray), 2)]) 40 96 (⟨#[97]⟩ : ByteArray) 3 (dPutL (96 / 32) (dPutL (96 / 32) ([] : List It) [((⟨#[97]⟩ : ByteArray), 1)]) [((⟨#[98]⟩ : ByteArray), 2)]) _ (hS.mem.res 0) (hS.mem.get 0 0 (.fn 0 64 dbT)) (hS.mem.nF (g := 0) (r := arR b'1 F4 (dPutM (dPutM (comM (AM.new 1) 0 1) 40 96 ([] : List It) [((⟨#[97]⟩ : ByteArray), 1)]) 40 96 (dPutL (96 / 32) ([] : List It) [((⟨#[97]⟩ : ByteArray), 1)]) [((⟨#[98]⟩ : ByteArray), 2)])) 0 0) (by first | assumption | omega | (simp_all; done) | (simp_all; omega)) (by first | exact hR0 | exact hR1 | exact hR2)) ?_
 rintro _ wd ⟨F5, rfl, hA, hF⟩
 refine ⟨vi ((dPutT (96 / 32) (dPutL (96 / 32) (dPutL (96 / 32) ([] : List It) [((⟨#[97]⟩ : ByteArray), 1)]) [((⟨#[98]⟩ : ByteArray), 2)]) [((⟨#[97]⟩ : ByteArray), 3)]).2), rfl, ?_⟩
 replace hS := (hS.to (hS.mem.stepA 0 rfl hA hF)).put (d := 22) (v := vi ((dPutT (96 / 32) (dPutL (96 / 32) (dPutL (96 / 32) ([] : List It) [((⟨#[97]⟩ : ByteArray), 1)]) [((⟨#[98]⟩ : ByteArray), 2)]) [((⟨#[97]⟩ : ByteArray), 3)]).2)) (by decide)
 clear hF
 replace hS := hS.fix 22 (vi 0) (show (vi ((dPutT (96 / 32) (dPutL (96 / 32) (dPutL (96 / 32) ([] : List It) [((⟨#[97]⟩ : ByteArray), 1)]) [((⟨#[98]⟩ : ByteArray), 2)]) [((⟨#[97]⟩ : ByteArray), 3)]).2) : Value) = vi 0 from (vint (by decide +kernel)))
 refine hS.opsC 3 [1, 70, 0] [2] fun _ => seg [(3, vb true)] [(0, none), (1, none)] [.t true, .t true] trivial fun ac wd hS => ?_
 refine list_nil_seq ?_
 refine wp_region_seq ?_
 refine hS.call0 157 #[] 25 (law05_Awake  _ (hS.mem.get 0 0 (.fn 0 64 dbT)) ) fun ac wd hS => ?_
 refine hS.opsC 4 [0, 1, 70, 0] [2] fun _ => seg [(29, vb true)] [(0, none), (1, none)] [.t true, .t true] trivial fun ac wd hS => ?_
 refine hS.opsC 1 [101] [29] fun _ => seg [(30, .agg #[pt b'1 0, vi 40, vi 96])] [(0, none)] [.t true, .e (ν2 0), .e (ν2 0), .e (ν2 0)] trivial fun ac wd hS => ?_
 refine hS.callG true 70 #[.agg #[pt b'1 0, vi 40, vi 96]] (d_All b'1 F5 (dPutM (dPutM (dPutM (comM (AM.new 1) 0 1) 40 96 ([] : List It) [((⟨#[97]⟩ : ByteArray), 1)]) 40 96 (dPutL (96 / 32) ([] : List It) [((⟨#[97]⟩ : ByteArray), 1)]) [((⟨#[98]⟩ : ByteArray), 2)]) 40 96 (dPutL (96 / 32) (dPutL (96 / 32) ([] : List It) [((⟨#[97]⟩ : ByteArray), 1)]) [((⟨#[98]⟩ : ByteArray), 2)]) [((⟨#[97]⟩ : ByteArray), 3)]) 40 96 ([((⟨#[97]⟩ : ByteArray), 3), ((⟨#[98]⟩ : ByteArray), 2)]) _ (hS.mem.res 0) (hS.mem.get 0 0 (.fn 0 64 dbT)) (by first | assumption | omega | (simp_all; done) | (simp_all; omega)) (by exact hR4)) ?_
 rintro _ wd ⟨ao26, c27, g28, o29, rfl, hv210, hog0, hoh0, hF⟩
 have ho11 : g28 = 0 ∨ w.heap.size ≤ g28 := by have := hS.mem.fr.size; have : w.heap.size ≤ _ := this; omega
 refine ⟨.slice ao26 (([((⟨#[97]⟩ : ByteArray), 3), ((⟨#[98]⟩ : ByteArray), 2)]).length) c27, rfl, ?_⟩
 replace hS := (hS.to (hS.mem.outs hF [(g28, .fn o29 (o29 + ([((⟨#[97]⟩ : ByteArray), 3), ((⟨#[98]⟩ : ByteArray), 2)]).length * 2) (itV (gtD ([((⟨#[97]⟩ : ByteArray), 3), ((⟨#[98]⟩ : ByteArray), 2)])) o29))] ⟨⟨rfl, hoh0, (fun q_ => q_.elim (fun e => .inl ⟨0, .fn 0 64 dbT, by rw [e]; as_aux_lemma => kernel_rfl, rfl⟩) (fun q_ => .inr q_)) hog0⟩, trivial⟩)).put (d := 31) (v := .slice ao26 (([((⟨#[97]⟩ : ByteArray), 3), ((⟨#[98]⟩ : ByteArray), 2)]).length) c27) (by decide)
 clear hF
 refine hS.opsC 3 [1, 1, 1] [29, 31] fun ν12 => seg [(34, sc (ν12 0) 0 2 2)] [(0, none), (1, none), (2, some ((ν12 0), .cells [.string (⟨#[97]⟩ : ByteArray), vu 3, .string (⟨#[98]⟩ : ByteArray), vu 2] 133))] [.t true, .t true, .t true] trivial fun ac wd hS => ?_
 refine hS.callG true 158 #[.slice ao26 (([((⟨#[97]⟩ : ByteArray), 3), ((⟨#[98]⟩ : ByteArray), 2)]).length) c27, sc (ν12 0) 0 2 2] (eq_items ao26 c27 g28 o29 ([((⟨#[97]⟩ : ByteArray), 3), ((⟨#[98]⟩ : ByteArray), 2)]) (some ⟨(ν12 0), 0, none⟩) 2 (ν12 0) 0 _ (hS.mem.get 1 g28 (.fn o29 (o29 + ([((⟨#[97]⟩ : ByteArray), 3), ((⟨#[98]⟩ : ByteArray), 2)]).length * 2) (itV (gtD ([((⟨#[97]⟩ : ByteArray), 3), ((⟨#[98]⟩ : ByteArray), 2)])) o29))) (HE.of_cells (hS.mem.get 2 (ν12 0) (.cells [.string (⟨#[97]⟩ : ByteArray), vu 3, .string (⟨#[98]⟩ : ByteArray), vu 2] 133)) (by intro o_ ho_; (rcases o_ with _ | _ | _ | _ | o_; rfl; rfl; rfl; rfl; exact absurd ho_ (by simp)))) hv210 (.inr rfl) (by decide)) ?_
 rintro _ wd ⟨rfl, hF⟩
 refine ⟨vb true, rfl, ?_⟩
 replace hS := (hS.to (hS.mem.keep0 hF)).put (d := 35) (v := vb true) (by decide)
 clear hF
 refine hS.opsC 2 [70, 0] [] fun _ => seg [(0, vb true)] [(0, none)] [.t true] trivial fun ac wd hS => ?_
 refine list_nil_seq ?_
 refine wp_ret ?_
 refine St.retC 0 hS (vb true) [] trivial fun hw => ?_
 refine ⟨retd rfl, hw.fr0⟩

set_option maxRecDepth 100000 in
set_option maxHeartbeats 1000000 in
theorem law22_Light (ao7 : Option Addr) (c7 : Nat) (g7 : Nat) (o7 : Nat) (l : List (AcD)) (w : World) (hh0 : HE.holds w 0 (.fn 0 64 dbT)) (hh1 : HE.holds w g7 (.fn o7 (o7 + l.length * 2) (aDV (gtD l) o7))) (hv7 : (l.length = 0 ∨ ao7 = some ⟨g7, o7, none⟩)) (hAl : ∀ i, i < l.length → rg_aDV w (gtD l i)) :
    Calls Tryd.prog 65 #[.slice ao7 l.length c7] w fun e w' => ∃ (r2 : Bool), e = .returned (vb r2) ∧ (r2 = true → l.length ≤ 60 ∧ ∀ i, i < l.length → (gtD l i).2.2.2.2.2.length ≤ 12) ∧ Fr w w' no no := by
 refine enter (args := [.slice ao7 l.length c7]) (D := no) (A := []) Tryd.func65 rfl 35 rfl [(0, .fn 0 64 dbT), (g7, .fn o7 (o7 + l.length * 2) (aDV (gtD l) o7))] (WS.startL ⟨⟨rfl, hh0⟩, ⟨rfl, hh1⟩, trivial⟩) fun ac hS => ?_
 refine hS.regS [0] [0] fun _ => seg [] [(0, none), (1, none)] [] trivial fun ac wd hS => ?_
 refine wp_seq ?_
 refine hS.regS [0, 0, 0] [] fun _ => seg [(7, .slice ao7 l.length c7), (8, vi ((l.length : Nat) : Int)), (9, vi 0)] [(0, none), (1, none)] [] trivial fun ac wd hS => ?_
 refine wp_block ?_
 refine St.loopC (σ := Int) (fun (x9 : Int) => ⟨[(7, [], .slice ao7 l.length c7), (8, [], vi ((l.length : Nat) : Int)), (9, [], vi x9)], [(0, .fn 0 64 dbT), (g7, .fn o7 (o7 + l.length * 2) (aDV (gtD l) o7))], [], (0 ≤ x9 ∧ x9 ≤ ((l.length : Nat) : Int)) ∧ (x9 ≤ 60) ∧ (∀ k : Nat, (k : Int) < x9 → k < l.length → (gtD l k).2.2.2.2.2.length ≤ 12) ∧ True, l.length - Int.toNat x9⟩) 0 ⟨(by omega), (by omega), (by intro k_ hk_; omega), trivial⟩ hS ?_
 clear hS
 rintro x9 ⟨i0, i2, i3, -⟩ ac wd hS
 replace i0 : 0 ≤ x9 ∧ x9 ≤ ((l.length : Nat) : Int) := i0
 replace i2 : x9 ≤ 60 := i2
 replace i3 : ∀ k : Nat, (k : Int) < x9 → k < l.length → (gtD l k).2.2.2.2.2.length ≤ 12 := i3
 refine hS.regS [0] [7, 8, 9] fun _ => seg [(10, vb (decide ((x9 : Int) < ((l.length : Nat) : Int))))] [(0, none), (1, none)] [] trivial fun ac wd hS => ?_
 refine wp_seq ?_
 refine hS.condC (decide ((x9 : Int) < ((l.length : Nat) : Int))) (fun hb1o hb1 => ?_) (fun hb1o hb1 => ?_)
 ·
  refine wp_skip ?_
  refine pop_then ?_
  refine wp_seq ?_
  refine wp_block ?_
  obtain rfl : ao7 = some ⟨g7, o7, none⟩ := Or.resolve_left hv7 (by omega)
  refine hS.regS [0, 20, fx 100 (.agg #[v8 (((gtD l) (Int.toNat x9)).1), .slice (((gtD l) (Int.toNat x9)).2.1) (((gtD l) (Int.toNat x9)).2.2.2.2.2.length) (((gtD l) (Int.toNat x9)).2.2.1)]), 0, 0, 200] [7, 8, 9] fun ν4 => seg [(3, vi x9), (4, pt (ν4 0) 0)] [(0, none), (1, none), (2, some ((ν4 0), .cells [v8 (((gtD l) (Int.toNat x9)).1), .slice (((gtD l) (Int.toNat x9)).2.1) (((gtD l) (Int.toNat x9)).2.2.2.2.2.length) (((gtD l) (Int.toNat x9)).2.2.1)] 131))] [.e (ν4 0), .e (ν4 0), .p ((.agg #[((aDV (gtD l) o7) (o7 + Int.toNat x9 * 2)), ((aDV (gtD l) o7) (o7 + Int.toNat x9 * 2 + 1))] : Value) = .agg #[v8 (((gtD l) (Int.toNat x9)).1), .slice (((gtD l) (Int.toNat x9)).2.1) (((gtD l) (Int.toNat x9)).2.2.2.2.2.length) (((gtD l) (Int.toNat x9)).2.2.1)]), .e g7, .p (o7 ≤ o7 + Int.toNat x9 * 2 + 1 ∧ o7 + Int.toNat x9 * 2 + 1 < (o7 + l.length * 2)), .e g7, .p (o7 ≤ o7 + Int.toNat x9 * 2 ∧ o7 + Int.toNat x9 * 2 < (o7 + l.length * 2)), .p ((0 : Int) ≤ x9 ∧ (x9 : Int) < ((l.length : Nat) : Int))] ⟨(agg2 (aDV_0 (gtD l) o7 (Int.toNat x9)) (aDV_1 (gtD l) o7 (Int.toNat x9))), (by omega), (by omega), (by omega), trivial⟩ fun ac wd hS => ?_
  refine wp_seq ?_
  obtain ⟨⟨yd, ya, yc, yg, yo, yL⟩, hy⟩ : ∃ q_ : AcD, q_ = gtD l (Int.toNat x9) := ⟨_, rfl⟩
  have hac := hAl _ (show Int.toNat x9 < l.length by omega)
  rw [← hy] at hac
  obtain ⟨hyd, hyv, hyh, hyi⟩ : (0 ≤ yd ∧ yd ≤ 255) ∧ (yL.length = 0 ∨ ya = some ⟨yg, yo, none⟩) ∧ HE.holds w yg (.fn yo (yo + yL.length * 2) (itV (gtD yL) yo)) ∧ ∀ i, i < yL.length → 0 ≤ (gtD yL i).2 ∧ (gtD yL i).2 ≤ 18446744073709551615 := hac
  replace hS := hS.to (hS.mem.tell 2 (b := (ν4 0)) (x := (.cells [v8 (((gtD l) (Int.toNat x9)).1), .slice (((gtD l) (Int.toNat x9)).2.1) (((gtD l) (Int.toNat x9)).2.2.2.2.2.length) (((gtD l) (Int.toNat x9)).2.2.1)] 131)) (.cells [v8 yd, .slice ya yL.length yc] 131) (hh := fun h_ => by rw [← hy] at h_; exact h_))
  replace hS := hS.to (hS.mem.acq (g := yg) (lo := yo) (hi := yo + yL.length * 2) (f := itV (gtD yL) yo) hyh (fun h_ => h_))
  refine hS.regS [0, 0, 0, 3, 203, 3, 3, 80] [4, 7, 8, 9] fun _ => seg [(21, vb ((decide ((60 : Int) ≤ x9)) || (decide ((12 : Int) < ((yL.length : Nat) : Int)))))] [(0, none), (1, none), (2, none), (3, none)] [.p ((((decide ((60 : Int) ≤ x9)) = false) ∧ True) → AllP [((ν4 0) : Nat) = (ν4 0)])] ⟨(fun ⟨hc0, _⟩ => by replace hc0 := nrm hc0; exact ⟨rfl, trivial⟩), trivial⟩ fun ac wd hS => ?_
  refine hS.condC ((decide ((60 : Int) ≤ x9)) || (decide ((12 : Int) < ((yL.length : Nat) : Int)))) (fun hb2o hb2 => ?_) (fun hb2o hb2 => ?_)
  ·
   refine hS.regS [0] [] fun _ => seg [(2, vb false)] [(0, none)] [] trivial fun ac wd hS => ?_
   refine wp_ret ?_
   refine pop_then_ret ?_
   refine pop_block_ret ?_
   refine pop_then_ret ?_
   refine pop_then_ret ?_
   refine pop_block_ret ?_
   refine pop_then_ret ?_
   refine St.retC 0 hS (vb false) [] trivial fun hw => ?_
   refine ⟨false, retd rfl, ?_, hw.fr0⟩
   all_goals (first | rfl | (intro h_; exact absurd h_ (by decide)) | exact fun _ => ⟨by omega, fun i_ hi_ => i3 i_ (by omega) hi_⟩)
  ·
   refine wp_skip ?_
   refine pop_then ?_
   refine hS.regS [0, 200, 0, 0] [7, 8, 9] fun _ => seg [(23, .slice ya yL.length yc), (24, vi ((yL.length : Nat) : Int)), (25, vi 0)] [(0, none), (1, none), (3, none)] [.e (ν4 0)] trivial fun ac wd hS => ?_
   refine wp_block ?_
   refine St.loopC (σ := Int) (fun (x25 : Int) => ⟨[(7, [], sc g7 o7 l.length c7), (8, [], vi ((l.length : Nat) : Int)), (9, [], vi x9), (23, [], .slice ya yL.length yc), (24, [], vi ((yL.length : Nat) : Int)), (25, [], vi x25)], [(0, .fn 0 64 dbT), (g7, .fn o7 (o7 + l.length * 2) (aDV (gtD l) o7)), (yg, .fn yo (yo + yL.length * 2) (itV (gtD yL) yo))], [], (0 ≤ x25 ∧ x25 ≤ ((yL.length : Nat) : Int)) ∧ True, yL.length - Int.toNat x25⟩) 0 ⟨(by omega), trivial⟩ hS ?_
   clear hS
   rintro x25 ⟨j0, -⟩ ac wd hS
   replace j0 : 0 ≤ x25 ∧ x25 ≤ ((yL.length : Nat) : Int) := j0
   refine hS.regS [0] [7, 8, 9, 23, 24, 25] fun _ => seg [(26, vb (decide ((x25 : Int) < ((yL.length : Nat) : Int))))] [(0, none), (1, none), (2, none)] [] trivial fun ac wd hS => ?_
   refine wp_seq ?_
   refine hS.condC (decide ((x25 : Int) < ((yL.length : Nat) : Int))) (fun hb3o hb3 => ?_) (fun hb3o hb3 => ?_)
   ·
    refine wp_skip ?_
    refine pop_then ?_
    refine wp_seq ?_
    refine wp_block ?_
    obtain rfl : ya = some ⟨yg, yo, none⟩ := Or.resolve_left hyv (by omega)
    refine hS.regS [20, fx 200 (.agg #[.string (((gtD yL) (Int.toNat x25)).1), vu (((gtD yL) (Int.toNat x25)).2)]), 0, 300] [7, 8, 9, 23, 24, 25] fun ν9 => seg [(6, pt (ν9 0) 0)] [(0, none), (1, none), (2, none), (3, some ((ν9 0), .cells [.string (((gtD yL) (Int.toNat x25)).1), vu (((gtD yL) (Int.toNat x25)).2)] 133))] [.e (ν9 0), .e (ν9 0), .p ((.agg #[((itV (gtD yL) yo) (yo + Int.toNat x25 * 2)), ((itV (gtD yL) yo) (yo + Int.toNat x25 * 2 + 1))] : Value) = .agg #[.string (((gtD yL) (Int.toNat x25)).1), vu (((gtD yL) (Int.toNat x25)).2)]), .e yg, .p (yo ≤ yo + Int.toNat x25 * 2 + 1 ∧ yo + Int.toNat x25 * 2 + 1 < (yo + yL.length * 2)), .e yg, .p (yo ≤ yo + Int.toNat x25 * 2 ∧ yo + Int.toNat x25 * 2 < (yo + yL.length * 2)), .p ((0 : Int) ≤ x25 ∧ (x25 : Int) < ((yL.length : Nat) : Int))] ⟨(agg2 (itV_0 (gtD yL) yo (Int.toNat x25)) (itV_1 (gtD yL) yo (Int.toNat x25))), (by omega), (by omega), (by omega), trivial⟩ fun ac wd hS => ?_
    refine hS.regS [0, 300, 0, 0] [7, 8, 9, 23, 24, 25] fun _ => seg [(32, vb (decide ((40 : Int) < ((ByteArray.size (((gtD yL) (Int.toNat x25)).1) : Nat) : Int))))] [(0, none), (1, none), (2, none)] [.e (ν9 0)] trivial fun ac wd hS => ?_
    refine hS.condC (decide ((40 : Int) < ((ByteArray.size (((gtD yL) (Int.toNat x25)).1) : Nat) : Int))) (fun hb4o hb4 => ?_) (fun hb4o hb4 => ?_)
    ·
     refine hS.regS [0] [] fun _ => seg [(2, vb false)] [(0, none)] [] trivial fun ac wd hS => ?_
     refine wp_ret ?_
     refine pop_block_ret ?_
     refine pop_then_ret ?_
     refine pop_then_ret ?_
     refine pop_block_ret ?_
     refine pop_block_ret ?_
     refine pop_then_ret ?_
     refine pop_then_ret ?_
     refine pop_block_ret ?_
     refine pop_then_ret ?_
     refine St.retC 0 hS (vb false) [] trivial fun hw => ?_
     refine ⟨false, retd rfl, ?_, hw.fr0⟩
     all_goals (first | rfl | (intro h_; exact absurd h_ (by decide)) | exact fun _ => ⟨by omega, fun i_ hi_ => i3 i_ (by omega) hi_⟩)
    ·
     refine wp_skip ?_
     refine pop_block ?_
     refine pop_then ?_
     refine hS.regC [20, 0] [7, 8, 9, 23, 24] fun _ => seg [(25, vi (x25 + 1))] [(0, none), (1, none), (2, none)] [.p (fit .i64 (x25 + 1))] ⟨fit_i64 (by omega), trivial⟩ fun ac wd hS => ?_
     exact pop_then (hS.next (x25 + 1) ⟨(by first | omega | assumption | (simp; done) | (simp; omega)), trivial⟩ (by dsimp only; omega))
   ·
    refine wp_exit ?_
    refine pop_then_exit ?_
    refine pop_then_exit ?_
    refine pop_block_hit ?_
    refine pop_block ?_
    refine pop_then ?_
    refine hS.regC [20, 0] [7, 8] fun _ => seg [(9, vi (x9 + 1))] [(0, none), (1, none)] [.p (fit .i64 (x9 + 1))] ⟨fit_i64 (by omega), trivial⟩ fun ac wd hS => ?_
    exact pop_then (hS.next (x9 + 1) ⟨(by first | omega | assumption | (simp; done) | (simp; omega)), (by first | omega | assumption | (simp; done) | (simp; omega)), (by exact fun k_ h1_ h2_ => by rcases Int.lt_or_le (k_ : Int) x9 with h3 | h3; exact i3 k_ h3 h2_; rw [show k_ = Int.toNat x9 by omega, ← hy]; show yL.length ≤ 12; omega), trivial⟩ (by dsimp only; omega))
 ·
  refine wp_exit ?_
  refine pop_then_exit ?_
  refine pop_then_exit ?_
  refine pop_block_hit ?_
  refine pop_then ?_
  refine hS.regS [0] [] fun _ => seg [(2, vb true)] [(0, none)] [] trivial fun ac wd hS => ?_
  refine wp_ret ?_
  refine St.retC 0 hS (vb true) [] trivial fun hw => ?_
  refine ⟨true, retd rfl, ?_, hw.fr0⟩
  all_goals (first | rfl | (intro h_; exact absurd h_ (by decide)) | exact fun _ => ⟨by omega, fun i_ hi_ => i3 i_ (by omega) hi_⟩)

set_option maxRecDepth 100000 in
set_option maxHeartbeats 1000000 in
theorem law22_DataOrder (ao7 : Option Addr) (c7 : Nat) (g7 : Nat) (o7 : Nat) (l : List (AcD)) (w : World) (hh0 : HE.holds w 0 (.fn 0 64 dbT)) (hh1 : HE.holds w g7 (.fn o7 (o7 + l.length * 2) (aDV (gtD l) o7))) (hv7 : (l.length = 0 ∨ ao7 = some ⟨g7, o7, none⟩)) (hAl : ∀ i, i < l.length → rg_aDV w (gtD l i)) :
    Calls Tryd.prog 11 #[.slice ao7 l.length c7] w fun e w' => e = .returned (vb true) ∧ Fr w w' no no := by
 have hZ0 : DtR (comM (AM.new 1) 0 1) 40 384 [] := DtR.zero (by decide) (by decide) (page_thr1 (by decide)) (comM_zero (fun _ => rfl) 0 1)
 refine enter (args := [.slice ao7 l.length c7]) (D := no) (A := []) Tryd.func11 rfl 99 rfl [(0, .fn 0 64 dbT), (g7, .fn o7 (o7 + l.length * 2) (aDV (gtD l) o7))] (WS.startL ⟨⟨rfl, hh0⟩, ⟨rfl, hh1⟩, trivial⟩) fun ac hS => ?_
 refine hS.regS [0] [0] fun _ => seg [] [(0, none), (1, none)] [] trivial fun ac wd hS => ?_
 refine wp_seq ?_
 refine wp_region_seq ?_
 refine hS.call0 64 #[] 14 (law22_awake  _ (hS.mem.get 0 0 (.fn 0 64 dbT)) ) fun ac wd hS => ?_
 refine hS.opsC 1 [0] [0] fun _ => seg [(15, vb false)] [(0, none), (1, none)] [] trivial fun ac wd hS => ?_
 refine list_nil_seq ?_
 refine hS.condF ?_
 refine wp_skip ?_
 refine pop_then ?_
 refine wp_seq ?_
 refine wp_region_seq ?_
 refine hS.opsC 1 [0] [0] fun _ => seg [(16, .slice ao7 l.length c7)] [(0, none), (1, none)] [] trivial fun ac wd hS => ?_
 refine hS.callC 65 #[.slice ao7 l.length c7] (law22_Light ao7 c7 g7 o7 l _ (hS.mem.get 0 0 (.fn 0 64 dbT)) (hS.mem.get 1 g7 (.fn o7 (o7 + l.length * 2) (aDV (gtD l) o7))) hv7 (by exact fun i_ hi_ => (hAl i_ hi_).keep hS.mem.fr)) ?_
 rintro _ wd ⟨r21, rfl, hL2, hF⟩
 refine ⟨vb r21, rfl, ?_⟩
 replace hS := (hS.to (hS.mem.keep0 hF)).put (d := 17) (v := vb r21) (by decide)
 clear hF
 have hLg0 := hL2
 refine hS.opsC 1 [0] [0] fun _ => seg [(18, vb (!r21))] [(0, none), (1, none)] [] trivial fun ac wd hS => ?_
 refine list_nil_seq ?_
 refine hS.condC (!r21) (fun hb3o hb3 => ?_) (fun hb3o hb3 => ?_)
 ·
  refine hS.regS [0] [] fun _ => seg [(2, vb true)] [(0, none)] [] trivial fun ac wd hS => ?_
  refine wp_ret ?_
  refine pop_then_ret ?_
  refine St.retC 0 hS (vb true) [] trivial fun hw => ?_
  refine ⟨retd rfl, hw.fr0⟩
 ·
  have hLg := hLg0 (by simpa using hb3)
  refine wp_skip ?_
  refine pop_then ?_
  refine wp_region_seq ?_
  refine hS.callC 66 #[vi 384] (law22_open 384 _  (by decide)) ?_
  rintro _ wd ⟨b'4, F5, rfl, hN, hF⟩
  refine ⟨.tuple #[pt b'4 0, .agg #[pt b'4 0, vi 40, vi 384], vb true], rfl, ?_⟩
  replace hS := (hS.to (hS.mem.newA hN hF)).put (d := 20) (v := .tuple #[pt b'4 0, .agg #[pt b'4 0, vi 40, vi 384], vb true]) (by decide)
  clear hF
  refine hS.opsC 8 [0, 0, 0, 0, 0, 0, 200, 0] [0] fun ν6 => seg [(4, pt (ν6 0) 0), (5, vb true)] [(0, none), (1, none), (2, some ((ν6 0), .cells [pt b'4 0, vi 40, vi 384] 125))] [.e (ν6 0), .e (ν6 0), .e (ν6 0)] trivial fun ac wd hS => ?_
  refine list_nil_seq ?_
  replace hS := hS.to (hS.mem.geNil 9 1 (s1V (gtD ([] : List ByteArray)) 0))
  refine hS.regS [0] [0, 4, 5] fun _ => seg [(6, vnil)] [(0, none), (1, none), (2, none)] [] trivial fun ac wd hS => ?_
  refine wp_seq ?_
  refine hS.regS [0, 0, 0] [4, 5, 6] fun _ => seg [(24, .slice ao7 l.length c7), (25, vi ((l.length : Nat) : Int)), (26, vi 0)] [(0, none), (1, none), (2, none)] [] trivial fun ac wd hS => ?_
  refine wp_block ?_
  refine St.loopC (σ := Int × (Nat → Prop) × AM × List It × Option Addr × Nat × (Nat → Prop) × List ByteArray) (fun (x : Int × (Nat → Prop) × AM × List It × Option Addr × Nat × (Nat → Prop) × List ByteArray) => match x with | (x26, Fx, mx, tL, ao_, co_, Fo_, lo_) => ⟨[(4, [], pt (ν6 0) 0), (5, [], vb true), (6, [], .slice ao_ lo_.length co_), (24, [], .slice ao7 l.length c7), (25, [], vi ((l.length : Nat) : Int)), (26, [], vi x26)], [(0, .fn 0 64 dbT), (g7, .fn o7 (o7 + l.length * 2) (aDV (gtD l) o7)), ((ν6 0), .cells [pt b'4 0, vi 40, vi 384] 125)], [arR b'4 Fx mx, geR 9 1 (.slice ao_ lo_.length co_) Fo_ (lo_.length, (s1V (gtD lo_) 0))], (0 ≤ x26 ∧ x26 ≤ ((l.length : Nat) : Int)) ∧ (DtR mx 40 384 tL) ∧ (lo_ = List.map (fun x_ => x_.1) tL) ∧ True, l.length - Int.toNat x26⟩) (0, F5, (comM (AM.new 1) 0 1), [], none, 0, no, []) ⟨(by omega), (by exact hZ0), (by rfl), trivial⟩ hS ?_
  clear hS
  rintro ⟨x26, Fx, mx, tL, ao_, co_, Fo_, lo_⟩ ⟨i0, i1, i2, -⟩ ac wd hS
  replace i0 : 0 ≤ x26 ∧ x26 ≤ ((l.length : Nat) : Int) := i0
  replace i1 : DtR mx 40 384 tL := i1
  replace i2 : lo_ = List.map (fun x_ => x_.1) tL := i2
  refine hS.regS [0] [4, 5, 6, 24, 25, 26] fun _ => seg [(27, vb (decide ((x26 : Int) < ((l.length : Nat) : Int))))] [(0, none), (1, none), (2, none)] [] trivial fun ac wd hS => ?_
  refine wp_seq ?_
  refine hS.condC (decide ((x26 : Int) < ((l.length : Nat) : Int))) (fun hb6o hb6 => ?_) (fun hb6o hb6 => ?_)
  ·
   refine wp_skip ?_
   refine pop_then ?_
   refine wp_seq ?_
   refine wp_block ?_
   obtain rfl : ao7 = some ⟨g7, o7, none⟩ := Or.resolve_left hv7 (by omega)
   refine hS.regS [20, fx 100 (.agg #[v8 (((gtD l) (Int.toNat x26)).1), .slice (((gtD l) (Int.toNat x26)).2.1) (((gtD l) (Int.toNat x26)).2.2.2.2.2.length) (((gtD l) (Int.toNat x26)).2.2.1)]), 0, 300] [4, 5, 6, 24, 25, 26] fun ν10 => seg [(8, pt (ν10 0) 0)] [(0, none), (1, none), (2, none), (3, some ((ν10 0), .cells [v8 (((gtD l) (Int.toNat x26)).1), .slice (((gtD l) (Int.toNat x26)).2.1) (((gtD l) (Int.toNat x26)).2.2.2.2.2.length) (((gtD l) (Int.toNat x26)).2.2.1)] 131))] [.e (ν10 0), .e (ν10 0), .p ((.agg #[((aDV (gtD l) o7) (o7 + Int.toNat x26 * 2)), ((aDV (gtD l) o7) (o7 + Int.toNat x26 * 2 + 1))] : Value) = .agg #[v8 (((gtD l) (Int.toNat x26)).1), .slice (((gtD l) (Int.toNat x26)).2.1) (((gtD l) (Int.toNat x26)).2.2.2.2.2.length) (((gtD l) (Int.toNat x26)).2.2.1)]), .e g7, .p (o7 ≤ o7 + Int.toNat x26 * 2 + 1 ∧ o7 + Int.toNat x26 * 2 + 1 < (o7 + l.length * 2)), .e g7, .p (o7 ≤ o7 + Int.toNat x26 * 2 ∧ o7 + Int.toNat x26 * 2 < (o7 + l.length * 2)), .p ((0 : Int) ≤ x26 ∧ (x26 : Int) < ((l.length : Nat) : Int))] ⟨(agg2 (aDV_0 (gtD l) o7 (Int.toNat x26)) (aDV_1 (gtD l) o7 (Int.toNat x26))), (by omega), (by omega), (by omega), trivial⟩ fun ac wd hS => ?_
   refine wp_seq ?_
   obtain ⟨⟨yd, ya, yc, yg, yo, yL⟩, hy⟩ : ∃ q_ : AcD, q_ = gtD l (Int.toNat x26) := ⟨_, rfl⟩
   have hac := hAl _ (show Int.toNat x26 < l.length by omega)
   rw [← hy] at hac
   obtain ⟨hyd, hyv, hyh, hyi⟩ : (0 ≤ yd ∧ yd ≤ 255) ∧ (yL.length = 0 ∨ ya = some ⟨yg, yo, none⟩) ∧ HE.holds w yg (.fn yo (yo + yL.length * 2) (itV (gtD yL) yo)) ∧ ∀ i, i < yL.length → 0 ≤ (gtD yL i).2 ∧ (gtD yL i).2 ≤ 18446744073709551615 := hac
   replace hS := hS.to (hS.mem.tell 3 (b := (ν10 0)) (x := (.cells [v8 (((gtD l) (Int.toNat x26)).1), .slice (((gtD l) (Int.toNat x26)).2.1) (((gtD l) (Int.toNat x26)).2.2.2.2.2.length) (((gtD l) (Int.toNat x26)).2.2.1)] 131)) (.cells [v8 yd, .slice ya yL.length yc] 131) (hh := fun h_ => by rw [← hy] at h_; exact h_))
   replace hS := hS.to (hS.mem.acq (g := yg) (lo := yo) (hi := yo + yL.length * 2) (f := itV (gtD yL) yo) hyh (fun h_ => h_))
   refine hS.regS [0, 300, 0, 0] [4, 5, 6, 8, 24, 25, 26] fun _ => seg [(33, vb ((((yL.length : Nat) : Int) : Int) == 0))] [(0, none), (1, none), (2, none), (3, none), (4, none)] [.e (ν10 0)] trivial fun ac wd hS => ?_
   refine hS.condC ((((yL.length : Nat) : Int) : Int) == 0) (fun hb7o hb7 => ?_) (fun hb7o hb7 => ?_)
   ·
    refine wp_exit ?_
    refine pop_then_exit ?_
    refine pop_block_hit ?_
    refine pop_then ?_
    refine hS.regC [20, 0] [4, 5, 6, 24, 25] fun _ => seg [(26, vi (x26 + 1))] [(0, none), (1, none), (2, none)] [.p (fit .i64 (x26 + 1))] ⟨fit_i64 (by omega), trivial⟩ fun ac wd hS => ?_
    exact pop_then (hS.next ((x26 + 1), Fx, mx, tL, ao_, co_, Fo_, lo_) ⟨(by omega), (by first | exact hRc | exact i1), (by first | exact hlc | exact i2), trivial⟩ (by dsimp only; omega))
   ·
    refine wp_skip ?_
    refine pop_then ?_
    obtain rfl : ya = some ⟨yg, yo, none⟩ := Or.resolve_left hyv (by omega)
    refine hS.regS [0, 300, 20, fx 400 (.agg #[.string (((gtD yL) 0).1), vu (((gtD yL) 0).2)]), 0, 500] [4, 5, 6, 8, 24, 25, 26] fun ν13 => seg [(9, pt (ν13 0) 0)] [(0, none), (1, none), (2, none), (3, none), (4, none), (5, some ((ν13 0), .cells [.string (((gtD yL) 0).1), vu (((gtD yL) 0).2)] 133))] [.e (ν13 0), .e (ν13 0), .p ((.agg #[((itV (gtD yL) yo) (yo + Int.toNat 0 * 2)), ((itV (gtD yL) yo) (yo + Int.toNat 0 * 2 + 1))] : Value) = .agg #[.string (((gtD yL) 0).1), vu (((gtD yL) 0).2)]), .e yg, .p (yo ≤ yo + Int.toNat 0 * 2 + 1 ∧ yo + Int.toNat 0 * 2 + 1 < (yo + yL.length * 2)), .e yg, .p (yo ≤ yo + Int.toNat 0 * 2 ∧ yo + Int.toNat 0 * 2 < (yo + yL.length * 2)), .p ((0 : Int) ≤ 0 ∧ (0 : Int) < ((yL.length : Nat) : Int)), .e (ν10 0)] ⟨(agg2 (itV_0 (gtD yL) yo 0) (itV_1 (gtD yL) yo 0)), (by omega), (by omega), (by omega), trivial⟩ fun ac wd hS => ?_
    refine wp_seq ?_
    obtain ⟨xk, xk_e⟩ : ∃ q_ : ByteArray, q_ = ((gtD yL) 0).1 := ⟨_, rfl⟩
    obtain ⟨xn, xn_e⟩ : ∃ q_ : Int, q_ = ((gtD yL) 0).2 := ⟨_, rfl⟩
    replace hS := hS.to (hS.mem.tell 5 (b := (ν13 0)) (x := (.cells [.string (((gtD yL) 0).1), vu (((gtD yL) 0).2)] 133)) (.cells [.string xk, vu xn] 133) (hh := fun h_ => by rw [xk_e, xn_e]; exact h_))
    have hxr : ∀ x_, x_ ∈ [(xk, xn)] → 0 ≤ x_.2 ∧ x_.2 ≤ 18446744073709551615 := fun x_ hx_ => by obtain rfl := List.mem_singleton.1 hx_; rw [show ((xk, xn) : It).2 = xn from rfl, xn_e]; exact hyi 0 (by omega)
    clear xk_e xn_e
    refine hS.regS [0, 300, 20, 0] [4, 5, 6, 9, 24, 25, 26] fun _ => seg [(41, vb (((yd % 4) : Int) == 3))] [(0, none), (1, none), (2, none), (5, none)] [.p ((4 : Int) ≠ 0 ∧ Int.tmod yd 4 = yd % 4), .e (ν10 0)] ⟨rem2 (by omega) (by omega), trivial⟩ fun ac wd hS => ?_
    refine hS.condC (((yd % 4) : Int) == 3) (fun hb8o hb8 => ?_) (fun hb8o hb8 => ?_)
    ·
     refine wp_region_seq ?_
     refine hS.opsC 3 [200, 0, 300] [4, 5, 6, 9, 24, 25, 26] fun _ => seg [(42, .agg #[pt b'4 0, vi 40, vi 384]), (44, .string xk)] [(0, none), (1, none), (2, none), (3, none)] [.e (ν13 0), .e (ν6 0), .e (ν6 0), .e (ν6 0)] trivial fun ac wd hS => ?_
     refine hS.callC 67 #[.agg #[pt b'4 0, vi 40, vi 384], .string xk] (d_Drop b'4 Fx mx 40 384 xk tL _ (hS.mem.res 0) (hS.mem.get 0 0 (.fn 0 64 dbT)) (hS.mem.nF (g := 0) (r := arR b'4 Fx mx) 0 0) (by first | assumption | omega | (simp_all; done) | (simp_all; omega)) (by exact i1)) ?_
     rintro _ wd ⟨F9, rfl, hA, hF⟩
     refine ⟨vi (dDroE tL xk), rfl, ?_⟩
     replace hS := (hS.to (hS.mem.stepA 0 rfl hA hF)).put (d := 45) (v := vi (dDroE tL xk)) (by decide)
     clear hF
     refine hS.opsC 1 [0] [4, 5, 6, 9, 24, 25, 26] fun _ => seg [(46, vb (((dDroE tL xk) : Int) == 0))] [(0, none), (1, none), (2, none), (3, none)] [] trivial fun ac wd hS => ?_
     refine list_nil_seq ?_
     refine hS.condC (((dDroE tL xk) : Int) == 0) (fun hb10o hb10 => ?_) (fun hb10o hb10 => ?_)
     ·
      have he0 : dDroE tL xk = 0 := hb10
      obtain ⟨hO3, hO2⟩ := ord_drop1 he0
      have hrg := dOf_rng tL xk
      have hl0 := congrArg List.length i2
      have hle0 := i1.okd.len
      rw [List.length_map] at hl0
      obtain ⟨gl11, hl12, hgc_, hO⟩ := WS.geList (e := 9) (sz := 1) (m := lo_.length) (F := Fo_) (f := (s1V (gtD lo_) 0)) (ao := ao_) (c2 := co_) hS.mem 1 0 (b := 0) (lo := 0) (hi := 64) (fd := dbT) (h2 := 0 + lo_.length) (hh := by omega)
      replace hS := hS.to hO
      clear hO
      refine wp_region_seq ?_
      refine hS.opsC 3 [0, 0, 300] [4, 5, 6, 24, 25, 26] fun _ => seg [(47, .slice ao_ lo_.length co_), (49, .string xk)] [(0, none), (1, none), (2, none), (4, none)] [.e (ν13 0)] trivial fun ac wd hS => ?_
      refine hS.call0 71 #[.slice ao_ lo_.length co_, .string xk] 50 (s_Index ao_ co_ gl11 0 lo_ xk _ (hS.mem.get 3 gl11 (.fn 0 (0 + lo_.length) (s1V (gtD lo_) 0))) hl12 (by omega)) fun ac wd hS => ?_
      refine hS.opsC 1 [0] [4, 5, 6, 24, 25, 26] fun _ => seg [(10, vi (sOf lo_ xk))] [(0, none), (1, none), (2, none), (3, none)] [] trivial fun ac wd hS => ?_
      refine list_nil_seq ?_
      obtain rfl : ao_ = some ⟨gl11, 0, none⟩ := Or.resolve_left hl12 (by omega)
      obtain ⟨ki, ki_e⟩ : ∃ q_ : Int, q_ = (sOf lo_ xk) := ⟨_, rfl⟩
      replace hS := hS.fix 10 (vi ki) (show (vi (sOf lo_ xk) : Value) = vi ki by rw [ki_e])
      have hki : ki = dOf tL xk := by rw [ki_e, i2, sOf_map]
      clear ki_e
      refine St.ordBegin [(1, 1), (2, 1), (3, 1), (5, 1), (6, 1), (7, 1), (8, 1), (0, 0), (4, 0), (9, 0), (10, 1)] [(0, .fn 0 64 dbT), (g7, .fn o7 (o7 + l.length * 2) (aDV (gtD l) o7)), ((ν6 0), .cells [pt b'4 0, vi 40, vi 384] 125), (gl11, .fn 0 (0 + lo_.length) (s1V (gtD lo_) 0))] [0, 1, 2, 3] hS fun wd hS => ?_
      have hap := hS.mem.pairs (Hf := [(0, .fn 0 64 dbT), (g7, .fn o7 (o7 + l.length * 2) (aDV (gtD l) o7)), ((ν6 0), .cells [pt b'4 0, vi 40, vi 384] 125), (gl11, .fn 0 (0 + lo_.length) (s1V (gtD lo_) 0))]) (l := [0, 1, 2, 3])
      refine St.ordF [0, 0, fx 20 (sc gl11 0 (Int.toNat ki) co_), 0, 0, 20, fx 10 (sc gl11 (sadd co_ (Int.toNat ((ki + 1) : Int)) 0 1) (lo_.length - (Int.toNat (ki + 1))) (co_ - (Int.toNat (ki + 1))))] [1, 2, 3, 5, 6, 7, 8] [4, 5, 6, 24, 25, 26] (rest := [(0, 0), (4, 0), (9, 0), (10, 1)]) hS hap <| segF [(54, sc gl11 0 (Int.toNat ki) co_), (59, sc gl11 (sadd co_ (Int.toNat ((ki + 1) : Int)) 0 1) (lo_.length - (Int.toNat (ki + 1))) (co_ - (Int.toNat (ki + 1))))] [.p ((sc gl11 (sadd co_ (Int.toNat ((ki + 1) : Int)) 0 1) (Int.toNat ((lo_.length : Nat) : Int) - Int.toNat ((ki + 1) : Int)) (co_ - Int.toNat ((ki + 1) : Int)) : Value) = sc gl11 (sadd co_ (Int.toNat ((ki + 1) : Int)) 0 1) (lo_.length - (Int.toNat (ki + 1))) (co_ - (Int.toNat (ki + 1)))), .p (0 ≤ ((ki + 1) : Int) ∧ ((ki + 1) : Int) ≤ ((lo_.length : Nat) : Int) ∧ ((lo_.length : Nat) : Int) ≤ ((co_ : Nat) : Int) ∧ lo_.length ≤ co_), .p (fit .i64 (ki + 1)), .p ((sc gl11 0 (Int.toNat (ki : Int)) co_ : Value) = sc gl11 0 (Int.toNat ki) co_), .p (0 ≤ (ki : Int) ∧ (ki : Int) ≤ ((co_ : Nat) : Int) ∧ lo_.length ≤ co_ ∧ (0 : Int) = 0)] ⟨(rfl), (by omega), fit_i64 (by omega), (rfl), (by omega), trivial⟩ fun ac hS => ?_
      refine St.ord1 0 [0] [4, 5, 6, 24, 25, 26, 54, 59] [0, 1, 2, 3] hS rfl fun ν19 => seg [(51, sc (ν19 0) 0 0 0)] [(0, none), (1, none), (2, none), (3, none), (4, some ((ν19 0), .cells [] 9))] [] trivial ⟨by as_aux_lemma => kernel_rfl, fun ac wd hS => ?_⟩
      refine Runs1.ord (i := 4) ?_
      replace hS := hS.to (hS.mem.geNew 9 1 (ν19 0) (s1V (gtD ([] : List (ByteArray))) 0))
      obtain ⟨i_, hi_, hz_, hs_, hb_⟩ := info_get (P := Tryd.prog) (e := 9) (z := .string (ByteArray.empty)) (s := 1) (b := 16) (by kernel_rfl)
      have hkl_ : (Int.toNat ki) = (lo_.take (Int.toNat ki)).length := by first | (rw [List.length_take]; omega) | (rw [List.length_drop]; done) | (rw [List.length_drop]; omega)
      refine St.appLE (m := (([] : List (ByteArray)).length)) (f := (s1V (gtD ([] : List (ByteArray))) 0)) (ak := (some ⟨gl11, 0, none⟩)) (k := (Int.toNat ki)) (ck := co_) (g := gl11) (so := 0) (F := (fun j => (s1V (gtD lo_) 0) (0 + j))) 1 hS (.tmp 51) (.tmp 54) 54 rfl rfl (by decide) Tryd.underlying54 hi_ hz_ hs_ (by omega) rfl (by decide) (.inr rfl) (CellsV.fn (hS.mem.get 3 gl11 (.fn 0 (0 + lo_.length) (s1V (gtD lo_) 0))) (by omega) (by omega)) (fun q_ _ => s1V_one _ _ _) (by first | omega | (simp only [List.length_nil]; omega) | (simp only [List.length_append, List.length_take]; omega) | (rw [j1, List.length_take, List.length_map]; omega)) fun ac wd v2_ F15 hB16 hS => ?_
      obtain ⟨xo13, xc14, rfl⟩ := hB16.slice
      replace hS := hS.to (hS.mem.geTell (m := ((([] : List (ByteArray)).length) + (Int.toNat ki))) 1 (s1V (gtD (lo_.take (Int.toNat ki))) 0) (s1V_catS ([] : List (ByteArray)) (lo_.take (Int.toNat ki)) lo_ 0 0 0 (Int.toNat ki) (by omega) hkl_ (gtD_takeQ _ _)))
      have hm_ : (([] : List (ByteArray)).length) + (Int.toNat ki) = ((lo_.take (Int.toNat ki))).length := by first | (rw [List.length_append, ← hkl_]; done) | (rw [← hkl_]; simp; done) | (simp only [List.length_append, List.length_nil]; omega)
      replace hS := hS.to (hS.mem.geRe (v := .slice xo13 (([] : List (ByteArray)).length + (Int.toNat ki)) xc14) (v' := .slice xo13 (((lo_.take (Int.toNat ki))).length) xc14) (m := ((([] : List (ByteArray)).length) + (Int.toNat ki))) (m' := ((lo_.take (Int.toNat ki))).length) (f := (s1V (gtD (lo_.take (Int.toNat ki))) 0)) 1 (by rw [hm_]) hm_)
      replace hS := hS.fix 55 (.slice xo13 (((lo_.take (Int.toNat ki))).length) xc14) (show (.slice xo13 (([] : List (ByteArray)).length + (Int.toNat ki)) xc14 : Value) = .slice xo13 (((lo_.take (Int.toNat ki))).length) xc14 by rw [hm_])
      refine hS.ordV (l := [0, 1, 2, 3]) ?_
      refine Runs1.ord (i := 9) ?_
      obtain ⟨i_, hi_, hz_, hs_, hb_⟩ := info_get (P := Tryd.prog) (e := 9) (z := .string (ByteArray.empty)) (s := 1) (b := 16) (by kernel_rfl)
      have hsd_ := sadd_or co_ (Int.toNat ((ki + 1) : Int)) 0 1
      have hkl_ : (lo_.length - (Int.toNat (ki + 1))) = (lo_.drop (Int.toNat (ki + 1))).length := by first | (rw [List.length_take]; omega) | (rw [List.length_drop]; done) | (rw [List.length_drop]; omega)
      refine St.appLE (m := (((lo_.take (Int.toNat ki))).length)) (f := (s1V (gtD (lo_.take (Int.toNat ki))) 0)) (ak := (some ⟨gl11, (sadd co_ (Int.toNat ((ki + 1) : Int)) 0 1), none⟩)) (k := (lo_.length - (Int.toNat (ki + 1)))) (ck := (co_ - (Int.toNat (ki + 1)))) (g := gl11) (so := (sadd co_ (Int.toNat ((ki + 1) : Int)) 0 1)) (F := (fun j => (s1V (gtD lo_) 0) ((sadd co_ (Int.toNat ((ki + 1) : Int)) 0 1) + j))) 1 hS (.tmp 55) (.tmp 59) 54 rfl rfl (by decide) Tryd.underlying54 hi_ hz_ hs_ (by omega) rfl (by decide) (.inr rfl) (CellsV.fn (hS.mem.get 3 gl11 (.fn 0 (0 + lo_.length) (s1V (gtD lo_) 0))) (by omega) (by omega)) (fun q_ _ => s1V_one _ _ _) (by first | omega | (simp only [List.length_nil]; omega) | (simp only [List.length_append, List.length_take]; omega) | (rw [j1, List.length_take, List.length_map]; omega)) fun ac wd v2_ F19 hB20 hS => ?_
      obtain ⟨xo17, xc18, rfl⟩ := hB20.slice
      replace hS := hS.to (hS.mem.geTell (m := ((((lo_.take (Int.toNat ki))).length) + (lo_.length - (Int.toNat (ki + 1))))) 1 (s1V (gtD ((lo_.take (Int.toNat ki)) ++ (lo_.drop (Int.toNat (ki + 1))))) 0) (s1V_catS (lo_.take (Int.toNat ki)) (lo_.drop (Int.toNat (ki + 1))) lo_ 0 (Int.toNat (ki + 1)) (sadd co_ (Int.toNat ((ki + 1) : Int)) 0 1) (lo_.length - (Int.toNat (ki + 1))) (by omega) hkl_ (gtD_dropQ _ _)))
      have hm_ : (((lo_.take (Int.toNat ki))).length) + (lo_.length - (Int.toNat (ki + 1))) = (((lo_.take (Int.toNat ki)) ++ (lo_.drop (Int.toNat (ki + 1))))).length := by first | (rw [List.length_append, ← hkl_]; done) | (rw [← hkl_]; simp; done) | (simp only [List.length_append, List.length_nil]; omega)
      replace hS := hS.to (hS.mem.geRe (v := .slice xo17 (((lo_.take (Int.toNat ki))).length + (lo_.length - (Int.toNat (ki + 1)))) xc18) (v' := .slice xo17 ((((lo_.take (Int.toNat ki)) ++ (lo_.drop (Int.toNat (ki + 1))))).length) xc18) (m := ((((lo_.take (Int.toNat ki))).length) + (lo_.length - (Int.toNat (ki + 1))))) (m' := (((lo_.take (Int.toNat ki)) ++ (lo_.drop (Int.toNat (ki + 1))))).length) (f := (s1V (gtD ((lo_.take (Int.toNat ki)) ++ (lo_.drop (Int.toNat (ki + 1))))) 0)) 1 (by rw [hm_]) hm_)
      replace hS := hS.fix 60 (.slice xo17 ((((lo_.take (Int.toNat ki)) ++ (lo_.drop (Int.toNat (ki + 1))))).length) xc18) (show (.slice xo17 (((lo_.take (Int.toNat ki))).length + (lo_.length - (Int.toNat (ki + 1)))) xc18 : Value) = .slice xo17 ((((lo_.take (Int.toNat ki)) ++ (lo_.drop (Int.toNat (ki + 1))))).length) xc18 by rw [hm_])
      refine hS.ordV (l := [0, 1, 2, 3]) ?_
      refine St.ordF [0] [10] [4, 5, 24, 25, 26] (rest := []) hS hap <| segF [(6, .slice xo17 ((((lo_.take (Int.toNat ki)) ++ (lo_.drop (Int.toNat (ki + 1))))).length) xc18)] [] trivial fun ac hS => ?_
      refine ord_nil ?_
      refine pop_then ?_
      have hRc : DtR (dDroM mx 40 384 tL xk) 40 384 (dDroL tL xk) := i1.drop xk
      have hlc : ((lo_.take (Int.toNat ki)) ++ (lo_.drop (Int.toNat (ki + 1)))) = List.map (fun x_ => x_.1) (dDroL tL xk) := by first | exact hO1 | (rw [hO0]; exact i2) | (rw [hO2, i2]; done) | (rw [hO2, hki, ← i2]; done) | (rw [hO2, hki, ← i2, show Int.toNat (dOf tL xk + 1) = Int.toNat (dOf tL xk) + 1 by omega])
      have hll := congrArg List.length hlc
      have hle := hRc.okd.len
      rw [List.length_map] at hll
      refine hS.regS [0] [4, 5, 6, 24, 25, 26] fun _ => seg [(11, vnil)] [(0, none), (1, none), (2, none)] [] trivial fun ac wd hS => ?_
      refine wp_seq ?_
      replace hS := hS.to (hS.mem.grNew 9 1 (s1V (gtD ([] : List ByteArray)) 0))
      refine wp_region_seq ?_
      refine hS.opsC 1 [200] [4, 5, 6, 11, 24, 25, 26] fun _ => seg [(80, .agg #[pt b'4 0, vi 40, vi 384])] [(0, none), (1, none), (2, none)] [.e (ν6 0), .e (ν6 0), .e (ν6 0)] trivial fun ac wd hS => ?_
      refine hS.callC 70 #[.agg #[pt b'4 0, vi 40, vi 384]] (d_All b'4 F9 (dDroM mx 40 384 tL xk) 40 384 (dDroL tL xk) _ (hS.mem.res 0) (hS.mem.get 0 0 (.fn 0 64 dbT)) (by first | assumption | omega | (simp_all; done) | (simp_all; omega)) (by exact hRc)) ?_
      rintro _ wd ⟨ao221, c222, g223, o224, rfl, hv225, hog0, hoh0, hF⟩
      have ho26 : g223 = 0 ∨ w.heap.size ≤ g223 := by have := hS.mem.fr.size; have : w.heap.size ≤ _ := this; omega
      refine ⟨.slice ao221 ((dDroL tL xk).length) c222, rfl, ?_⟩
      replace hS := (hS.to (hS.mem.outs hF [(g223, .fn o224 (o224 + (dDroL tL xk).length * 2) (itV (gtD (dDroL tL xk)) o224))] ⟨⟨rfl, hoh0, (fun q_ => q_.elim (fun e => .inl ⟨0, .fn 0 64 dbT, by rw [e]; as_aux_lemma => kernel_rfl, rfl⟩) (fun q_ => .inr q_)) hog0⟩, trivial⟩)).put (d := 81) (v := .slice ao221 ((dDroL tL xk).length) c222) (by decide)
      clear hF
      refine hS.opsC 2 [0, 0] [4, 5, 6, 11, 24, 25, 26, 81] fun _ => seg [(82, vi (((dDroL tL xk).length : Nat) : Int)), (83, vi 0)] [(0, none), (1, none), (2, none), (3, none)] [] trivial fun ac wd hS => ?_
      refine list_nil_seq ?_
      refine wp_block ?_
      refine St.loopC (σ := Int × Option Addr × Nat × (Nat → Prop) × List ByteArray) (fun (x : Int × Option Addr × Nat × (Nat → Prop) × List ByteArray) => match x with | (x83, an_, cn_, Fn_, ln_) => ⟨[(4, [], pt (ν6 0) 0), (5, [], vb true), (6, [], .slice xo17 ((((lo_.take (Int.toNat ki)) ++ (lo_.drop (Int.toNat (ki + 1))))).length) xc18), (11, [], .slice an_ ln_.length cn_), (24, [], sc g7 o7 l.length c7), (25, [], vi ((l.length : Nat) : Int)), (26, [], vi x26), (81, [], .slice ao221 ((dDroL tL xk).length) c222), (82, [], vi (((dDroL tL xk).length : Nat) : Int)), (83, [], vi x83)], [(0, .fn 0 64 dbT), (g7, .fn o7 (o7 + l.length * 2) (aDV (gtD l) o7)), ((ν6 0), .cells [pt b'4 0, vi 40, vi 384] 125), (g223, .fn o224 (o224 + (dDroL tL xk).length * 2) (itV (gtD (dDroL tL xk)) o224))], [arR b'4 F9 (dDroM mx 40 384 tL xk), geR 9 1 (.slice xo17 ((((lo_.take (Int.toNat ki)) ++ (lo_.drop (Int.toNat (ki + 1))))).length) xc18) F19 ((((lo_.take (Int.toNat ki)) ++ (lo_.drop (Int.toNat (ki + 1))))).length, (s1V (gtD ((lo_.take (Int.toNat ki)) ++ (lo_.drop (Int.toNat (ki + 1))))) 0)), grR 9 1 (.slice an_ ln_.length cn_) Fn_ (ln_.length, (s1V (gtD ln_) 0))], (0 ≤ x83 ∧ x83 ≤ (((dDroL tL xk).length : Nat) : Int)) ∧ (ln_ = (List.map (fun x_ => x_.1) (dDroL tL xk)).take (Int.toNat x83)) ∧ True, (dDroL tL xk).length - Int.toNat x83⟩) (0, none, 0, no, []) ⟨(by omega), (by rfl), trivial⟩ hS ?_
      clear hS
      rintro ⟨x83, an_, cn_, Fn_, ln_⟩ ⟨j0, j1, -⟩ ac wd hS
      replace j0 : 0 ≤ x83 ∧ x83 ≤ (((dDroL tL xk).length : Nat) : Int) := j0
      replace j1 : ln_ = (List.map (fun x_ => x_.1) (dDroL tL xk)).take (Int.toNat x83) := j1
      refine hS.regS [0] [4, 5, 6, 11, 24, 25, 26, 81, 82, 83] fun _ => seg [(84, vb (decide ((x83 : Int) < (((dDroL tL xk).length : Nat) : Int))))] [(0, none), (1, none), (2, none), (3, none)] [] trivial fun ac wd hS => ?_
      refine wp_seq ?_
      refine hS.condC (decide ((x83 : Int) < (((dDroL tL xk).length : Nat) : Int))) (fun hb27o hb27 => ?_) (fun hb27o hb27 => ?_)
      ·
       refine wp_skip ?_
       refine pop_then ?_
       refine wp_seq ?_
       refine wp_block ?_
       obtain rfl : ao221 = some ⟨g223, o224, none⟩ := Or.resolve_left hv225 (by omega)
       refine hS.regS [20, fx 300 (.agg #[.string (((gtD (dDroL tL xk)) (Int.toNat x83)).1), vu (((gtD (dDroL tL xk)) (Int.toNat x83)).2)]), 0, 400] [4, 5, 6, 11, 24, 25, 26, 81, 82, 83] fun ν24 => seg [(13, pt (ν24 0) 0)] [(0, none), (1, none), (2, none), (3, none), (4, some ((ν24 0), .cells [.string (((gtD (dDroL tL xk)) (Int.toNat x83)).1), vu (((gtD (dDroL tL xk)) (Int.toNat x83)).2)] 133))] [.e (ν24 0), .e (ν24 0), .p ((.agg #[((itV (gtD (dDroL tL xk)) o224) (o224 + Int.toNat x83 * 2)), ((itV (gtD (dDroL tL xk)) o224) (o224 + Int.toNat x83 * 2 + 1))] : Value) = .agg #[.string (((gtD (dDroL tL xk)) (Int.toNat x83)).1), vu (((gtD (dDroL tL xk)) (Int.toNat x83)).2)]), .e g223, .p (o224 ≤ o224 + Int.toNat x83 * 2 + 1 ∧ o224 + Int.toNat x83 * 2 + 1 < (o224 + (dDroL tL xk).length * 2)), .e g223, .p (o224 ≤ o224 + Int.toNat x83 * 2 ∧ o224 + Int.toNat x83 * 2 < (o224 + (dDroL tL xk).length * 2)), .p ((0 : Int) ≤ x83 ∧ (x83 : Int) < (((dDroL tL xk).length : Nat) : Int))] ⟨(agg2 (itV_0 (gtD (dDroL tL xk)) o224 (Int.toNat x83)) (itV_1 (gtD (dDroL tL xk)) o224 (Int.toNat x83))), (by omega), (by omega), (by omega), trivial⟩ fun ac wd hS => ?_
       refine wp_region_lit ?_
       refine hS.opsC 4 [0, 0, 400, 0] [4, 5, 6, 11, 24, 25, 26, 81, 82, 83] fun ν25 => seg [(87, .slice an_ ln_.length cn_), (90, sc (ν25 0) 0 1 1)] [(0, none), (1, none), (2, none), (3, none), (5, some ((ν25 0), .cells [.string (((gtD (dDroL tL xk)) (Int.toNat x83)).1)] 9))] [.e (ν24 0)] trivial fun ac wd hS => ?_
       obtain ⟨i_, hi_, hz_, hs_, hb_⟩ := info_get (P := Tryd.prog) (e := 9) (z := .string (ByteArray.empty)) (s := 1) (b := 16) (by kernel_rfl)
       refine Runs1.list ?_
       refine St.appV (m := ln_.length) (f := (s1V (gtD ln_) 0)) (news := [.string (((gtD (dDroL tL xk)) (Int.toNat x83)).1)]) (bx := (ν25 0)) (cx := 1) (Tx := 9) 2 hS (.tmp 87) (.tmp 90) 54 rfl rfl (by decide) Tryd.underlying54 hi_ hz_ hs_ (by omega) rfl (by decide) 4 rfl rfl (by first | omega | (simp only [List.length_nil]; omega) | (simp only [List.length_append, List.length_take]; omega) | (rw [j1, List.length_take, List.length_map]; omega)) fun ac wd v2_ F30 hB31 hS => ?_
       obtain ⟨xo28, xc29, rfl⟩ := hB31.slice
       replace hS := hS.to (hS.mem.grTell (m := (ln_.length + 1)) 2 (s1V (gtD (ln_ ++ [((gtD (dDroL tL xk)) (Int.toNat x83)).1])) 0) (s1V_app ln_ (((gtD (dDroL tL xk)) (Int.toNat x83)).1)))
       have hm_ : ln_.length + 1 = ((ln_ ++ [((gtD (dDroL tL xk)) (Int.toNat x83)).1])).length := by simp
       replace hS := hS.to (hS.mem.grRe (v := .slice xo28 (ln_.length + 1) xc29) (v' := .slice xo28 (((ln_ ++ [((gtD (dDroL tL xk)) (Int.toNat x83)).1])).length) xc29) (m := (ln_.length + 1)) (m' := ((ln_ ++ [((gtD (dDroL tL xk)) (Int.toNat x83)).1])).length) (f := (s1V (gtD (ln_ ++ [((gtD (dDroL tL xk)) (Int.toNat x83)).1])) 0)) 2 (by rw [hm_]) hm_)
       replace hS := hS.fix 91 (.slice xo28 (((ln_ ++ [((gtD (dDroL tL xk)) (Int.toNat x83)).1])).length) xc29) (show (.slice xo28 (ln_.length + 1) xc29 : Value) = .slice xo28 (((ln_ ++ [((gtD (dDroL tL xk)) (Int.toNat x83)).1])).length) xc29 by rw [hm_])
       refine hS.opsC 1 [0] [4, 5, 6, 24, 25, 26, 81, 82, 83] fun _ => seg [(11, .slice xo28 (((ln_ ++ [((gtD (dDroL tL xk)) (Int.toNat x83)).1])).length) xc29)] [(0, none), (1, none), (2, none), (3, none)] [] trivial fun ac wd hS => ?_
       refine list_nil ?_
       refine pop_block ?_
       refine pop_then ?_
       refine hS.regC [20, 0] [4, 5, 6, 11, 24, 25, 26, 81, 82] fun _ => seg [(83, vi (x83 + 1))] [(0, none), (1, none), (2, none), (3, none)] [.p (fit .i64 (x83 + 1))] ⟨fit_i64 (by omega), trivial⟩ fun ac wd hS => ?_
       exact pop_then (hS.next ((x83 + 1), xo28, xc29, F30, (ln_ ++ [((gtD (dDroL tL xk)) (Int.toNat x83)).1])) ⟨(by omega), (by exact now_step j1 j0.1 (by omega)), trivial⟩ (by dsimp only; omega))
      ·
       refine wp_exit ?_
       refine pop_then_exit ?_
       refine pop_then_exit ?_
       refine pop_block_hit ?_
       refine pop_then ?_
       replace hS := hS.to (hS.mem.geOf (e := 9) (sz := 1) (v := (.slice an_ ln_.length cn_)) (F := Fn_) (q := (ln_.length, (s1V (gtD ln_) 0))) 2)
       obtain ⟨gl32, hl33, hgc_, hO⟩ := WS.geList (e := 9) (sz := 1) (m := ln_.length) (F := Fn_) (f := (s1V (gtD ln_) 0)) (ao := an_) (c2 := cn_) hS.mem 2 0 (b := 0) (lo := 0) (hi := 64) (fd := dbT) (h2 := 0 + ln_.length) (hh := by omega)
       replace hS := hS.to hO
       clear hO
       have hq_ : ((lo_.take (Int.toNat ki)) ++ (lo_.drop (Int.toNat (ki + 1)))) = ln_ := (show ln_ = ((lo_.take (Int.toNat ki)) ++ (lo_.drop (Int.toNat (ki + 1)))) by rw [j1, List.take_of_length_le (by rw [List.length_map]; omega)]; exact hlc.symm).symm
       subst hq_
       refine wp_region_seq ?_
       refine hS.opsC 2 [0, 0] [4, 5, 6, 24, 25, 26] fun _ => seg [(93, .slice an_ (((lo_.take (Int.toNat ki)) ++ (lo_.drop (Int.toNat (ki + 1)))).length) cn_), (94, .slice xo17 ((((lo_.take (Int.toNat ki)) ++ (lo_.drop (Int.toNat (ki + 1))))).length) xc18)] [(0, none), (1, none), (2, none), (4, none)] [] trivial fun ac wd hS => ?_
       obtain ⟨gp34, hvp35, hhp36⟩ := geR.peek (e := 9) (sz := 1) (m := ((((lo_.take (Int.toNat ki)) ++ (lo_.drop (Int.toNat (ki + 1))))).length)) (F := F19) (f := (s1V (gtD ((lo_.take (Int.toNat ki)) ++ (lo_.drop (Int.toNat (ki + 1))))) 0)) (ao := xo17) (c2 := xc18) (hS.mem.res 1) (hS.mem.get 0 0 (.fn 0 64 dbT)) (0 + (((lo_.take (Int.toNat ki)) ++ (lo_.drop (Int.toNat (ki + 1))))).length) (by omega)
       refine hS.call0 73 #[.slice an_ (((lo_.take (Int.toNat ki)) ++ (lo_.drop (Int.toNat (ki + 1)))).length) cn_, .slice xo17 ((((lo_.take (Int.toNat ki)) ++ (lo_.drop (Int.toNat (ki + 1))))).length) xc18] 95 (eq_strings an_ cn_ gl32 0 ((lo_.take (Int.toNat ki)) ++ (lo_.drop (Int.toNat (ki + 1)))) xo17 xc18 gp34 0 _ (hS.mem.get 3 gl32 (.fn 0 (0 + ((lo_.take (Int.toNat ki)) ++ (lo_.drop (Int.toNat (ki + 1)))).length) (s1V (gtD ((lo_.take (Int.toNat ki)) ++ (lo_.drop (Int.toNat (ki + 1))))) 0))) hhp36 hl33 hvp35 (by omega)) fun ac wd hS => ?_
       refine hS.opsC 1 [0] [4, 5, 6, 24, 25, 26] fun _ => seg [(96, vb false)] [(0, none), (1, none), (2, none)] [] trivial fun ac wd hS => ?_
       refine list_nil_seq ?_
       refine hS.condF ?_
       refine wp_skip ?_
       refine pop_block ?_
       refine pop_then ?_
       refine hS.regC [20, 0] [4, 5, 6, 24, 25] fun _ => seg [(26, vi (x26 + 1))] [(0, none), (1, none), (2, none)] [.p (fit .i64 (x26 + 1))] ⟨fit_i64 (by omega), trivial⟩ fun ac wd hS => ?_
       exact pop_then (hS.next ((x26 + 1), F9, (dDroM mx 40 384 tL xk), (dDroL tL xk), xo17, xc18, F19, ((lo_.take (Int.toNat ki)) ++ (lo_.drop (Int.toNat (ki + 1))))) ⟨(by omega), (by first | exact hRc | exact i1), (by first | exact hlc | exact i2), trivial⟩ (by dsimp only; omega))
     ·
      have hO0 : dDroL tL xk = tL := ord_drop0 hb10
      refine wp_skip ?_
      refine pop_then ?_
      have hRc : DtR (dDroM mx 40 384 tL xk) 40 384 (dDroL tL xk) := i1.drop xk
      have hlc : lo_ = List.map (fun x_ => x_.1) (dDroL tL xk) := by first | exact hO1 | (rw [hO0]; exact i2) | (rw [hO2, i2]; done) | (rw [hO2, hki, ← i2]; done) | (rw [hO2, hki, ← i2, show Int.toNat (dOf tL xk + 1) = Int.toNat (dOf tL xk) + 1 by omega])
      have hll := congrArg List.length hlc
      have hle := hRc.okd.len
      rw [List.length_map] at hll
      refine hS.regS [0] [4, 5, 6, 24, 25, 26] fun _ => seg [(11, vnil)] [(0, none), (1, none), (2, none)] [] trivial fun ac wd hS => ?_
      refine wp_seq ?_
      replace hS := hS.to (hS.mem.grNew 9 1 (s1V (gtD ([] : List ByteArray)) 0))
      refine wp_region_seq ?_
      refine hS.opsC 1 [200] [4, 5, 6, 11, 24, 25, 26] fun _ => seg [(80, .agg #[pt b'4 0, vi 40, vi 384])] [(0, none), (1, none), (2, none)] [.e (ν6 0), .e (ν6 0), .e (ν6 0)] trivial fun ac wd hS => ?_
      refine hS.callC 70 #[.agg #[pt b'4 0, vi 40, vi 384]] (d_All b'4 F9 (dDroM mx 40 384 tL xk) 40 384 (dDroL tL xk) _ (hS.mem.res 0) (hS.mem.get 0 0 (.fn 0 64 dbT)) (by first | assumption | omega | (simp_all; done) | (simp_all; omega)) (by exact hRc)) ?_
      rintro _ wd ⟨ao237, c238, g239, o240, rfl, hv241, hog0, hoh0, hF⟩
      have ho42 : g239 = 0 ∨ w.heap.size ≤ g239 := by have := hS.mem.fr.size; have : w.heap.size ≤ _ := this; omega
      refine ⟨.slice ao237 ((dDroL tL xk).length) c238, rfl, ?_⟩
      replace hS := (hS.to (hS.mem.outs hF [(g239, .fn o240 (o240 + (dDroL tL xk).length * 2) (itV (gtD (dDroL tL xk)) o240))] ⟨⟨rfl, hoh0, (fun q_ => q_.elim (fun e => .inl ⟨0, .fn 0 64 dbT, by rw [e]; as_aux_lemma => kernel_rfl, rfl⟩) (fun q_ => .inr q_)) hog0⟩, trivial⟩)).put (d := 81) (v := .slice ao237 ((dDroL tL xk).length) c238) (by decide)
      clear hF
      refine hS.opsC 2 [0, 0] [4, 5, 6, 11, 24, 25, 26, 81] fun _ => seg [(82, vi (((dDroL tL xk).length : Nat) : Int)), (83, vi 0)] [(0, none), (1, none), (2, none), (3, none)] [] trivial fun ac wd hS => ?_
      refine list_nil_seq ?_
      refine wp_block ?_
      refine St.loopC (σ := Int × Option Addr × Nat × (Nat → Prop) × List ByteArray) (fun (x : Int × Option Addr × Nat × (Nat → Prop) × List ByteArray) => match x with | (x83, an_, cn_, Fn_, ln_) => ⟨[(4, [], pt (ν6 0) 0), (5, [], vb true), (6, [], .slice ao_ lo_.length co_), (11, [], .slice an_ ln_.length cn_), (24, [], sc g7 o7 l.length c7), (25, [], vi ((l.length : Nat) : Int)), (26, [], vi x26), (81, [], .slice ao237 ((dDroL tL xk).length) c238), (82, [], vi (((dDroL tL xk).length : Nat) : Int)), (83, [], vi x83)], [(0, .fn 0 64 dbT), (g7, .fn o7 (o7 + l.length * 2) (aDV (gtD l) o7)), ((ν6 0), .cells [pt b'4 0, vi 40, vi 384] 125), (g239, .fn o240 (o240 + (dDroL tL xk).length * 2) (itV (gtD (dDroL tL xk)) o240))], [arR b'4 F9 (dDroM mx 40 384 tL xk), geR 9 1 (.slice ao_ lo_.length co_) Fo_ (lo_.length, (s1V (gtD lo_) 0)), grR 9 1 (.slice an_ ln_.length cn_) Fn_ (ln_.length, (s1V (gtD ln_) 0))], (0 ≤ x83 ∧ x83 ≤ (((dDroL tL xk).length : Nat) : Int)) ∧ (ln_ = (List.map (fun x_ => x_.1) (dDroL tL xk)).take (Int.toNat x83)) ∧ True, (dDroL tL xk).length - Int.toNat x83⟩) (0, none, 0, no, []) ⟨(by omega), (by rfl), trivial⟩ hS ?_
      clear hS
      rintro ⟨x83, an_, cn_, Fn_, ln_⟩ ⟨j0, j1, -⟩ ac wd hS
      replace j0 : 0 ≤ x83 ∧ x83 ≤ (((dDroL tL xk).length : Nat) : Int) := j0
      replace j1 : ln_ = (List.map (fun x_ => x_.1) (dDroL tL xk)).take (Int.toNat x83) := j1
      refine hS.regS [0] [4, 5, 6, 11, 24, 25, 26, 81, 82, 83] fun _ => seg [(84, vb (decide ((x83 : Int) < (((dDroL tL xk).length : Nat) : Int))))] [(0, none), (1, none), (2, none), (3, none)] [] trivial fun ac wd hS => ?_
      refine wp_seq ?_
      refine hS.condC (decide ((x83 : Int) < (((dDroL tL xk).length : Nat) : Int))) (fun hb43o hb43 => ?_) (fun hb43o hb43 => ?_)
      ·
       refine wp_skip ?_
       refine pop_then ?_
       refine wp_seq ?_
       refine wp_block ?_
       obtain rfl : ao237 = some ⟨g239, o240, none⟩ := Or.resolve_left hv241 (by omega)
       refine hS.regS [20, fx 300 (.agg #[.string (((gtD (dDroL tL xk)) (Int.toNat x83)).1), vu (((gtD (dDroL tL xk)) (Int.toNat x83)).2)]), 0, 400] [4, 5, 6, 11, 24, 25, 26, 81, 82, 83] fun ν35 => seg [(13, pt (ν35 0) 0)] [(0, none), (1, none), (2, none), (3, none), (4, some ((ν35 0), .cells [.string (((gtD (dDroL tL xk)) (Int.toNat x83)).1), vu (((gtD (dDroL tL xk)) (Int.toNat x83)).2)] 133))] [.e (ν35 0), .e (ν35 0), .p ((.agg #[((itV (gtD (dDroL tL xk)) o240) (o240 + Int.toNat x83 * 2)), ((itV (gtD (dDroL tL xk)) o240) (o240 + Int.toNat x83 * 2 + 1))] : Value) = .agg #[.string (((gtD (dDroL tL xk)) (Int.toNat x83)).1), vu (((gtD (dDroL tL xk)) (Int.toNat x83)).2)]), .e g239, .p (o240 ≤ o240 + Int.toNat x83 * 2 + 1 ∧ o240 + Int.toNat x83 * 2 + 1 < (o240 + (dDroL tL xk).length * 2)), .e g239, .p (o240 ≤ o240 + Int.toNat x83 * 2 ∧ o240 + Int.toNat x83 * 2 < (o240 + (dDroL tL xk).length * 2)), .p ((0 : Int) ≤ x83 ∧ (x83 : Int) < (((dDroL tL xk).length : Nat) : Int))] ⟨(agg2 (itV_0 (gtD (dDroL tL xk)) o240 (Int.toNat x83)) (itV_1 (gtD (dDroL tL xk)) o240 (Int.toNat x83))), (by omega), (by omega), (by omega), trivial⟩ fun ac wd hS => ?_
       refine wp_region_lit ?_
       refine hS.opsC 4 [0, 0, 400, 0] [4, 5, 6, 11, 24, 25, 26, 81, 82, 83] fun ν36 => seg [(87, .slice an_ ln_.length cn_), (90, sc (ν36 0) 0 1 1)] [(0, none), (1, none), (2, none), (3, none), (5, some ((ν36 0), .cells [.string (((gtD (dDroL tL xk)) (Int.toNat x83)).1)] 9))] [.e (ν35 0)] trivial fun ac wd hS => ?_
       obtain ⟨i_, hi_, hz_, hs_, hb_⟩ := info_get (P := Tryd.prog) (e := 9) (z := .string (ByteArray.empty)) (s := 1) (b := 16) (by kernel_rfl)
       refine Runs1.list ?_
       refine St.appV (m := ln_.length) (f := (s1V (gtD ln_) 0)) (news := [.string (((gtD (dDroL tL xk)) (Int.toNat x83)).1)]) (bx := (ν36 0)) (cx := 1) (Tx := 9) 2 hS (.tmp 87) (.tmp 90) 54 rfl rfl (by decide) Tryd.underlying54 hi_ hz_ hs_ (by omega) rfl (by decide) 4 rfl rfl (by first | omega | (simp only [List.length_nil]; omega) | (simp only [List.length_append, List.length_take]; omega) | (rw [j1, List.length_take, List.length_map]; omega)) fun ac wd v2_ F46 hB47 hS => ?_
       obtain ⟨xo44, xc45, rfl⟩ := hB47.slice
       replace hS := hS.to (hS.mem.grTell (m := (ln_.length + 1)) 2 (s1V (gtD (ln_ ++ [((gtD (dDroL tL xk)) (Int.toNat x83)).1])) 0) (s1V_app ln_ (((gtD (dDroL tL xk)) (Int.toNat x83)).1)))
       have hm_ : ln_.length + 1 = ((ln_ ++ [((gtD (dDroL tL xk)) (Int.toNat x83)).1])).length := by simp
       replace hS := hS.to (hS.mem.grRe (v := .slice xo44 (ln_.length + 1) xc45) (v' := .slice xo44 (((ln_ ++ [((gtD (dDroL tL xk)) (Int.toNat x83)).1])).length) xc45) (m := (ln_.length + 1)) (m' := ((ln_ ++ [((gtD (dDroL tL xk)) (Int.toNat x83)).1])).length) (f := (s1V (gtD (ln_ ++ [((gtD (dDroL tL xk)) (Int.toNat x83)).1])) 0)) 2 (by rw [hm_]) hm_)
       replace hS := hS.fix 91 (.slice xo44 (((ln_ ++ [((gtD (dDroL tL xk)) (Int.toNat x83)).1])).length) xc45) (show (.slice xo44 (ln_.length + 1) xc45 : Value) = .slice xo44 (((ln_ ++ [((gtD (dDroL tL xk)) (Int.toNat x83)).1])).length) xc45 by rw [hm_])
       refine hS.opsC 1 [0] [4, 5, 6, 24, 25, 26, 81, 82, 83] fun _ => seg [(11, .slice xo44 (((ln_ ++ [((gtD (dDroL tL xk)) (Int.toNat x83)).1])).length) xc45)] [(0, none), (1, none), (2, none), (3, none)] [] trivial fun ac wd hS => ?_
       refine list_nil ?_
       refine pop_block ?_
       refine pop_then ?_
       refine hS.regC [20, 0] [4, 5, 6, 11, 24, 25, 26, 81, 82] fun _ => seg [(83, vi (x83 + 1))] [(0, none), (1, none), (2, none), (3, none)] [.p (fit .i64 (x83 + 1))] ⟨fit_i64 (by omega), trivial⟩ fun ac wd hS => ?_
       exact pop_then (hS.next ((x83 + 1), xo44, xc45, F46, (ln_ ++ [((gtD (dDroL tL xk)) (Int.toNat x83)).1])) ⟨(by omega), (by exact now_step j1 j0.1 (by omega)), trivial⟩ (by dsimp only; omega))
      ·
       refine wp_exit ?_
       refine pop_then_exit ?_
       refine pop_then_exit ?_
       refine pop_block_hit ?_
       refine pop_then ?_
       replace hS := hS.to (hS.mem.geOf (e := 9) (sz := 1) (v := (.slice an_ ln_.length cn_)) (F := Fn_) (q := (ln_.length, (s1V (gtD ln_) 0))) 2)
       obtain ⟨gl48, hl49, hgc_, hO⟩ := WS.geList (e := 9) (sz := 1) (m := ln_.length) (F := Fn_) (f := (s1V (gtD ln_) 0)) (ao := an_) (c2 := cn_) hS.mem 2 0 (b := 0) (lo := 0) (hi := 64) (fd := dbT) (h2 := 0 + ln_.length) (hh := by omega)
       replace hS := hS.to hO
       clear hO
       have hq_ : lo_ = ln_ := (show ln_ = lo_ by rw [j1, List.take_of_length_le (by rw [List.length_map]; omega)]; exact hlc.symm).symm
       subst hq_
       refine wp_region_seq ?_
       refine hS.opsC 2 [0, 0] [4, 5, 6, 24, 25, 26] fun _ => seg [(93, .slice an_ lo_.length cn_), (94, .slice ao_ lo_.length co_)] [(0, none), (1, none), (2, none), (4, none)] [] trivial fun ac wd hS => ?_
       obtain ⟨gp50, hvp51, hhp52⟩ := geR.peek (e := 9) (sz := 1) (m := lo_.length) (F := Fo_) (f := (s1V (gtD lo_) 0)) (ao := ao_) (c2 := co_) (hS.mem.res 1) (hS.mem.get 0 0 (.fn 0 64 dbT)) (0 + lo_.length) (by omega)
       refine hS.call0 73 #[.slice an_ lo_.length cn_, .slice ao_ lo_.length co_] 95 (eq_strings an_ cn_ gl48 0 lo_ ao_ co_ gp50 0 _ (hS.mem.get 3 gl48 (.fn 0 (0 + lo_.length) (s1V (gtD lo_) 0))) hhp52 hl49 hvp51 (by omega)) fun ac wd hS => ?_
       refine hS.opsC 1 [0] [4, 5, 6, 24, 25, 26] fun _ => seg [(96, vb false)] [(0, none), (1, none), (2, none)] [] trivial fun ac wd hS => ?_
       refine list_nil_seq ?_
       refine hS.condF ?_
       refine wp_skip ?_
       refine pop_block ?_
       refine pop_then ?_
       refine hS.regC [20, 0] [4, 5, 6, 24, 25] fun _ => seg [(26, vi (x26 + 1))] [(0, none), (1, none), (2, none)] [.p (fit .i64 (x26 + 1))] ⟨fit_i64 (by omega), trivial⟩ fun ac wd hS => ?_
       exact pop_then (hS.next ((x26 + 1), F9, (dDroM mx 40 384 tL xk), (dDroL tL xk), ao_, co_, Fo_, lo_) ⟨(by omega), (by first | exact hRc | exact i1), (by first | exact hlc | exact i2), trivial⟩ (by dsimp only; omega))
    ·
     refine wp_region_seq ?_
     refine hS.opsC 5 [200, 0, 300, 0, 300] [4, 5, 6, 9, 24, 25, 26] fun _ => seg [(61, .agg #[pt b'4 0, vi 40, vi 384]), (63, .string xk), (65, vu xn)] [(0, none), (1, none), (2, none), (3, none)] [.e (ν13 0), .e (ν13 0), .e (ν6 0), .e (ν6 0), .e (ν6 0)] trivial fun ac wd hS => ?_
     refine hS.callC 68 #[.agg #[pt b'4 0, vi 40, vi 384], .string xk, vu xn] (d_Set b'4 Fx mx 40 384 xk xn tL _ (hS.mem.res 0) (hS.mem.get 0 0 (.fn 0 64 dbT)) (hS.mem.nF (g := 0) (r := arR b'4 Fx mx) 0 0) (by first | assumption | omega | (simp_all; done) | (simp_all; omega)) (by exact i1)) ?_
     rintro _ wd ⟨F53, rfl, hA, hF⟩
     refine ⟨vi ((dPutT (384 / 32) tL [(xk, xn)]).2), rfl, ?_⟩
     replace hS := (hS.to (hS.mem.stepA 0 rfl hA hF)).put (d := 66) (v := vi ((dPutT (384 / 32) tL [(xk, xn)]).2)) (by decide)
     clear hF
     refine hS.opsC 2 [0, 0] [4, 5, 6, 9, 24, 25, 26] fun _ => seg [(68, vb (((dPutT (384 / 32) tL [(xk, xn)]).2 : Int) == 0))] [(0, none), (1, none), (2, none), (3, none)] [] trivial fun ac wd hS => ?_
     rcases Bool.eq_false_or_eq_true (((dPutT (384 / 32) tL [(xk, xn)]).2 : Int) == 0) with hg54o | hg54o
     ·
      have hg54 := nrm hg54o
      have he0 := hg54
      have hl0 := congrArg List.length i2
      have hle0 := i1.okd.len
      rw [List.length_map] at hl0
      replace hS := hS.fix 68 (vb true) (congrArg Value.bool hg54o)
      refine hS.opsC 3 [1, 1, 301] [4, 5, 6, 9, 24, 25, 26, 68] fun _ => seg [(69, .slice ao_ lo_.length co_), (71, .string xk)] [(0, none), (1, none), (2, none), (3, none)] [.t true, .e (ν13 0), .t true, .t true] trivial fun ac wd hS => ?_
      obtain ⟨gp55, hvp56, hhp57⟩ := geR.peek (e := 9) (sz := 1) (m := lo_.length) (F := Fo_) (f := (s1V (gtD lo_) 0)) (ao := ao_) (c2 := co_) (hS.mem.res 1) (hS.mem.get 0 0 (.fn 0 64 dbT)) (0 + lo_.length) (by omega)
      refine hS.callG true 72 #[.slice ao_ lo_.length co_, .string xk] (s_Contains ao_ co_ gp55 0 lo_ xk _ hhp57 hvp56 (by omega)) ?_
      rintro _ wd ⟨rfl, hF⟩
      refine ⟨vb (decide ((0 : Int) ≤ (sOf lo_ xk))), rfl, ?_⟩
      replace hS := (hS.to (hS.mem.keep0 hF)).put (d := 72) (v := vb (decide ((0 : Int) ≤ (sOf lo_ xk)))) (by decide)
      clear hF
      refine hS.opsC 2 [1, 70] [4, 5, 6, 9, 24, 25, 26] fun _ => seg [(74, vb (!(decide ((0 : Int) ≤ (sOf lo_ xk)))))] [(0, none), (1, none), (2, none), (3, none)] [.t true, .t true] trivial fun ac wd hS => ?_
      refine list_nil_seq ?_
      refine hS.condC (!(decide ((0 : Int) ≤ (sOf lo_ xk)))) (fun hb58o hb58 => ?_) (fun hb58o hb58 => ?_)
      ·
       have hO2 := ord_set2 (x := (xk, xn)) he0 (by have h9_ := hb58; rw [i2, sOf_map] at h9_; simpa using h9_)
       refine wp_region_lit ?_
       refine hS.opsC 4 [0, 0, 300, 0] [4, 5, 6, 24, 25, 26] fun ν46 => seg [(75, .slice ao_ lo_.length co_), (78, sc (ν46 0) 0 1 1)] [(0, none), (1, none), (2, none), (4, some ((ν46 0), .cells [.string xk] 9))] [.e (ν13 0)] trivial fun ac wd hS => ?_
       obtain ⟨i_, hi_, hz_, hs_, hb_⟩ := info_get (P := Tryd.prog) (e := 9) (z := .string (ByteArray.empty)) (s := 1) (b := 16) (by kernel_rfl)
       refine Runs1.list ?_
       refine St.appVE (m := lo_.length) (f := (s1V (gtD lo_) 0)) (news := [.string xk]) (bx := (ν46 0)) (cx := 1) (Tx := 9) 1 hS (.tmp 75) (.tmp 78) 54 rfl rfl (by decide) Tryd.underlying54 hi_ hz_ hs_ (by omega) rfl (by decide) 3 rfl rfl (by first | omega | (simp only [List.length_nil]; omega) | (simp only [List.length_append, List.length_take]; omega) | (rw [j1, List.length_take, List.length_map]; omega)) fun ac wd v2_ F61 hB62 hS => ?_
       obtain ⟨xo59, xc60, rfl⟩ := hB62.slice
       replace hS := hS.to (hS.mem.geTell (m := (lo_.length + 1)) 1 (s1V (gtD (lo_ ++ [xk])) 0) (s1V_app lo_ xk))
       have hm_ : lo_.length + 1 = ((lo_ ++ [xk])).length := by simp
       replace hS := hS.to (hS.mem.geRe (v := .slice xo59 (lo_.length + 1) xc60) (v' := .slice xo59 (((lo_ ++ [xk])).length) xc60) (m := (lo_.length + 1)) (m' := ((lo_ ++ [xk])).length) (f := (s1V (gtD (lo_ ++ [xk])) 0)) 1 (by rw [hm_]) hm_)
       replace hS := hS.fix 79 (.slice xo59 (((lo_ ++ [xk])).length) xc60) (show (.slice xo59 (lo_.length + 1) xc60 : Value) = .slice xo59 (((lo_ ++ [xk])).length) xc60 by rw [hm_])
       refine hS.opsC 1 [0] [4, 5, 24, 25, 26] fun _ => seg [(6, .slice xo59 (((lo_ ++ [xk])).length) xc60)] [(0, none), (1, none), (2, none)] [] trivial fun ac wd hS => ?_
       refine list_nil ?_
       refine pop_then ?_
       have hRc : DtR (dPutM mx 40 384 tL [(xk, xn)]) 40 384 (dPutL (384 / 32) tL [(xk, xn)]) := i1.put hxr
       have hlc : (lo_ ++ [xk]) = List.map (fun x_ => x_.1) (dPutL (384 / 32) tL [(xk, xn)]) := by first | exact hO1 | (rw [hO0]; exact i2) | (rw [hO2, i2]; done) | (rw [hO2, hki, ← i2]; done) | (rw [hO2, hki, ← i2, show Int.toNat (dOf tL xk + 1) = Int.toNat (dOf tL xk) + 1 by omega])
       have hll := congrArg List.length hlc
       have hle := hRc.okd.len
       rw [List.length_map] at hll
       refine hS.regS [0] [4, 5, 6, 24, 25, 26] fun _ => seg [(11, vnil)] [(0, none), (1, none), (2, none)] [] trivial fun ac wd hS => ?_
       refine wp_seq ?_
       replace hS := hS.to (hS.mem.grNew 9 1 (s1V (gtD ([] : List ByteArray)) 0))
       refine wp_region_seq ?_
       refine hS.opsC 1 [200] [4, 5, 6, 11, 24, 25, 26] fun _ => seg [(80, .agg #[pt b'4 0, vi 40, vi 384])] [(0, none), (1, none), (2, none)] [.e (ν6 0), .e (ν6 0), .e (ν6 0)] trivial fun ac wd hS => ?_
       refine hS.callC 70 #[.agg #[pt b'4 0, vi 40, vi 384]] (d_All b'4 F53 (dPutM mx 40 384 tL [(xk, xn)]) 40 384 (dPutL (384 / 32) tL [(xk, xn)]) _ (hS.mem.res 0) (hS.mem.get 0 0 (.fn 0 64 dbT)) (by first | assumption | omega | (simp_all; done) | (simp_all; omega)) (by exact hRc)) ?_
       rintro _ wd ⟨ao263, c264, g265, o266, rfl, hv267, hog0, hoh0, hF⟩
       have ho68 : g265 = 0 ∨ w.heap.size ≤ g265 := by have := hS.mem.fr.size; have : w.heap.size ≤ _ := this; omega
       refine ⟨.slice ao263 ((dPutL (384 / 32) tL [(xk, xn)]).length) c264, rfl, ?_⟩
       replace hS := (hS.to (hS.mem.outs hF [(g265, .fn o266 (o266 + (dPutL (384 / 32) tL [(xk, xn)]).length * 2) (itV (gtD (dPutL (384 / 32) tL [(xk, xn)])) o266))] ⟨⟨rfl, hoh0, (fun q_ => q_.elim (fun e => .inl ⟨0, .fn 0 64 dbT, by rw [e]; as_aux_lemma => kernel_rfl, rfl⟩) (fun q_ => .inr q_)) hog0⟩, trivial⟩)).put (d := 81) (v := .slice ao263 ((dPutL (384 / 32) tL [(xk, xn)]).length) c264) (by decide)
       clear hF
       refine hS.opsC 2 [0, 0] [4, 5, 6, 11, 24, 25, 26, 81] fun _ => seg [(82, vi (((dPutL (384 / 32) tL [(xk, xn)]).length : Nat) : Int)), (83, vi 0)] [(0, none), (1, none), (2, none), (3, none)] [] trivial fun ac wd hS => ?_
       refine list_nil_seq ?_
       refine wp_block ?_
       refine St.loopC (σ := Int × Option Addr × Nat × (Nat → Prop) × List ByteArray) (fun (x : Int × Option Addr × Nat × (Nat → Prop) × List ByteArray) => match x with | (x83, an_, cn_, Fn_, ln_) => ⟨[(4, [], pt (ν6 0) 0), (5, [], vb true), (6, [], .slice xo59 (((lo_ ++ [xk])).length) xc60), (11, [], .slice an_ ln_.length cn_), (24, [], sc g7 o7 l.length c7), (25, [], vi ((l.length : Nat) : Int)), (26, [], vi x26), (81, [], .slice ao263 ((dPutL (384 / 32) tL [(xk, xn)]).length) c264), (82, [], vi (((dPutL (384 / 32) tL [(xk, xn)]).length : Nat) : Int)), (83, [], vi x83)], [(0, .fn 0 64 dbT), (g7, .fn o7 (o7 + l.length * 2) (aDV (gtD l) o7)), ((ν6 0), .cells [pt b'4 0, vi 40, vi 384] 125), (g265, .fn o266 (o266 + (dPutL (384 / 32) tL [(xk, xn)]).length * 2) (itV (gtD (dPutL (384 / 32) tL [(xk, xn)])) o266))], [arR b'4 F53 (dPutM mx 40 384 tL [(xk, xn)]), geR 9 1 (.slice xo59 (((lo_ ++ [xk])).length) xc60) F61 (((lo_ ++ [xk])).length, (s1V (gtD (lo_ ++ [xk])) 0)), grR 9 1 (.slice an_ ln_.length cn_) Fn_ (ln_.length, (s1V (gtD ln_) 0))], (0 ≤ x83 ∧ x83 ≤ (((dPutL (384 / 32) tL [(xk, xn)]).length : Nat) : Int)) ∧ (ln_ = (List.map (fun x_ => x_.1) (dPutL (384 / 32) tL [(xk, xn)])).take (Int.toNat x83)) ∧ True, (dPutL (384 / 32) tL [(xk, xn)]).length - Int.toNat x83⟩) (0, none, 0, no, []) ⟨(by omega), (by rfl), trivial⟩ hS ?_
       clear hS
       rintro ⟨x83, an_, cn_, Fn_, ln_⟩ ⟨j0, j1, -⟩ ac wd hS
       replace j0 : 0 ≤ x83 ∧ x83 ≤ (((dPutL (384 / 32) tL [(xk, xn)]).length : Nat) : Int) := j0
       replace j1 : ln_ = (List.map (fun x_ => x_.1) (dPutL (384 / 32) tL [(xk, xn)])).take (Int.toNat x83) := j1
       refine hS.regS [0] [4, 5, 6, 11, 24, 25, 26, 81, 82, 83] fun _ => seg [(84, vb (decide ((x83 : Int) < (((dPutL (384 / 32) tL [(xk, xn)]).length : Nat) : Int))))] [(0, none), (1, none), (2, none), (3, none)] [] trivial fun ac wd hS => ?_
       refine wp_seq ?_
       refine hS.condC (decide ((x83 : Int) < (((dPutL (384 / 32) tL [(xk, xn)]).length : Nat) : Int))) (fun hb69o hb69 => ?_) (fun hb69o hb69 => ?_)
       ·
        refine wp_skip ?_
        refine pop_then ?_
        refine wp_seq ?_
        refine wp_block ?_
        obtain rfl : ao263 = some ⟨g265, o266, none⟩ := Or.resolve_left hv267 (by omega)
        refine hS.regS [20, fx 300 (.agg #[.string (((gtD (dPutL (384 / 32) tL [(xk, xn)])) (Int.toNat x83)).1), vu (((gtD (dPutL (384 / 32) tL [(xk, xn)])) (Int.toNat x83)).2)]), 0, 400] [4, 5, 6, 11, 24, 25, 26, 81, 82, 83] fun ν52 => seg [(13, pt (ν52 0) 0)] [(0, none), (1, none), (2, none), (3, none), (4, some ((ν52 0), .cells [.string (((gtD (dPutL (384 / 32) tL [(xk, xn)])) (Int.toNat x83)).1), vu (((gtD (dPutL (384 / 32) tL [(xk, xn)])) (Int.toNat x83)).2)] 133))] [.e (ν52 0), .e (ν52 0), .p ((.agg #[((itV (gtD (dPutL (384 / 32) tL [(xk, xn)])) o266) (o266 + Int.toNat x83 * 2)), ((itV (gtD (dPutL (384 / 32) tL [(xk, xn)])) o266) (o266 + Int.toNat x83 * 2 + 1))] : Value) = .agg #[.string (((gtD (dPutL (384 / 32) tL [(xk, xn)])) (Int.toNat x83)).1), vu (((gtD (dPutL (384 / 32) tL [(xk, xn)])) (Int.toNat x83)).2)]), .e g265, .p (o266 ≤ o266 + Int.toNat x83 * 2 + 1 ∧ o266 + Int.toNat x83 * 2 + 1 < (o266 + (dPutL (384 / 32) tL [(xk, xn)]).length * 2)), .e g265, .p (o266 ≤ o266 + Int.toNat x83 * 2 ∧ o266 + Int.toNat x83 * 2 < (o266 + (dPutL (384 / 32) tL [(xk, xn)]).length * 2)), .p ((0 : Int) ≤ x83 ∧ (x83 : Int) < (((dPutL (384 / 32) tL [(xk, xn)]).length : Nat) : Int))] ⟨(agg2 (itV_0 (gtD (dPutL (384 / 32) tL [(xk, xn)])) o266 (Int.toNat x83)) (itV_1 (gtD (dPutL (384 / 32) tL [(xk, xn)])) o266 (Int.toNat x83))), (by omega), (by omega), (by omega), trivial⟩ fun ac wd hS => ?_
        refine wp_region_lit ?_
        refine hS.opsC 4 [0, 0, 400, 0] [4, 5, 6, 11, 24, 25, 26, 81, 82, 83] fun ν53 => seg [(87, .slice an_ ln_.length cn_), (90, sc (ν53 0) 0 1 1)] [(0, none), (1, none), (2, none), (3, none), (5, some ((ν53 0), .cells [.string (((gtD (dPutL (384 / 32) tL [(xk, xn)])) (Int.toNat x83)).1)] 9))] [.e (ν52 0)] trivial fun ac wd hS => ?_
        obtain ⟨i_, hi_, hz_, hs_, hb_⟩ := info_get (P := Tryd.prog) (e := 9) (z := .string (ByteArray.empty)) (s := 1) (b := 16) (by kernel_rfl)
        refine Runs1.list ?_
        refine St.appV (m := ln_.length) (f := (s1V (gtD ln_) 0)) (news := [.string (((gtD (dPutL (384 / 32) tL [(xk, xn)])) (Int.toNat x83)).1)]) (bx := (ν53 0)) (cx := 1) (Tx := 9) 2 hS (.tmp 87) (.tmp 90) 54 rfl rfl (by decide) Tryd.underlying54 hi_ hz_ hs_ (by omega) rfl (by decide) 4 rfl rfl (by first | omega | (simp only [List.length_nil]; omega) | (simp only [List.length_append, List.length_take]; omega) | (rw [j1, List.length_take, List.length_map]; omega)) fun ac wd v2_ F72 hB73 hS => ?_
        obtain ⟨xo70, xc71, rfl⟩ := hB73.slice
        replace hS := hS.to (hS.mem.grTell (m := (ln_.length + 1)) 2 (s1V (gtD (ln_ ++ [((gtD (dPutL (384 / 32) tL [(xk, xn)])) (Int.toNat x83)).1])) 0) (s1V_app ln_ (((gtD (dPutL (384 / 32) tL [(xk, xn)])) (Int.toNat x83)).1)))
        have hm_ : ln_.length + 1 = ((ln_ ++ [((gtD (dPutL (384 / 32) tL [(xk, xn)])) (Int.toNat x83)).1])).length := by simp
        replace hS := hS.to (hS.mem.grRe (v := .slice xo70 (ln_.length + 1) xc71) (v' := .slice xo70 (((ln_ ++ [((gtD (dPutL (384 / 32) tL [(xk, xn)])) (Int.toNat x83)).1])).length) xc71) (m := (ln_.length + 1)) (m' := ((ln_ ++ [((gtD (dPutL (384 / 32) tL [(xk, xn)])) (Int.toNat x83)).1])).length) (f := (s1V (gtD (ln_ ++ [((gtD (dPutL (384 / 32) tL [(xk, xn)])) (Int.toNat x83)).1])) 0)) 2 (by rw [hm_]) hm_)
        replace hS := hS.fix 91 (.slice xo70 (((ln_ ++ [((gtD (dPutL (384 / 32) tL [(xk, xn)])) (Int.toNat x83)).1])).length) xc71) (show (.slice xo70 (ln_.length + 1) xc71 : Value) = .slice xo70 (((ln_ ++ [((gtD (dPutL (384 / 32) tL [(xk, xn)])) (Int.toNat x83)).1])).length) xc71 by rw [hm_])
        refine hS.opsC 1 [0] [4, 5, 6, 24, 25, 26, 81, 82, 83] fun _ => seg [(11, .slice xo70 (((ln_ ++ [((gtD (dPutL (384 / 32) tL [(xk, xn)])) (Int.toNat x83)).1])).length) xc71)] [(0, none), (1, none), (2, none), (3, none)] [] trivial fun ac wd hS => ?_
        refine list_nil ?_
        refine pop_block ?_
        refine pop_then ?_
        refine hS.regC [20, 0] [4, 5, 6, 11, 24, 25, 26, 81, 82] fun _ => seg [(83, vi (x83 + 1))] [(0, none), (1, none), (2, none), (3, none)] [.p (fit .i64 (x83 + 1))] ⟨fit_i64 (by omega), trivial⟩ fun ac wd hS => ?_
        exact pop_then (hS.next ((x83 + 1), xo70, xc71, F72, (ln_ ++ [((gtD (dPutL (384 / 32) tL [(xk, xn)])) (Int.toNat x83)).1])) ⟨(by omega), (by exact now_step j1 j0.1 (by omega)), trivial⟩ (by dsimp only; omega))
       ·
        refine wp_exit ?_
        refine pop_then_exit ?_
        refine pop_then_exit ?_
        refine pop_block_hit ?_
        refine pop_then ?_
        replace hS := hS.to (hS.mem.geOf (e := 9) (sz := 1) (v := (.slice an_ ln_.length cn_)) (F := Fn_) (q := (ln_.length, (s1V (gtD ln_) 0))) 2)
        obtain ⟨gl74, hl75, hgc_, hO⟩ := WS.geList (e := 9) (sz := 1) (m := ln_.length) (F := Fn_) (f := (s1V (gtD ln_) 0)) (ao := an_) (c2 := cn_) hS.mem 2 0 (b := 0) (lo := 0) (hi := 64) (fd := dbT) (h2 := 0 + ln_.length) (hh := by omega)
        replace hS := hS.to hO
        clear hO
        have hq_ : (lo_ ++ [xk]) = ln_ := (show ln_ = (lo_ ++ [xk]) by rw [j1, List.take_of_length_le (by rw [List.length_map]; omega)]; exact hlc.symm).symm
        subst hq_
        refine wp_region_seq ?_
        refine hS.opsC 2 [0, 0] [4, 5, 6, 24, 25, 26] fun _ => seg [(93, .slice an_ ((lo_ ++ [xk]).length) cn_), (94, .slice xo59 (((lo_ ++ [xk])).length) xc60)] [(0, none), (1, none), (2, none), (4, none)] [] trivial fun ac wd hS => ?_
        obtain ⟨gp76, hvp77, hhp78⟩ := geR.peek (e := 9) (sz := 1) (m := (((lo_ ++ [xk])).length)) (F := F61) (f := (s1V (gtD (lo_ ++ [xk])) 0)) (ao := xo59) (c2 := xc60) (hS.mem.res 1) (hS.mem.get 0 0 (.fn 0 64 dbT)) (0 + ((lo_ ++ [xk])).length) (by omega)
        refine hS.call0 73 #[.slice an_ ((lo_ ++ [xk]).length) cn_, .slice xo59 (((lo_ ++ [xk])).length) xc60] 95 (eq_strings an_ cn_ gl74 0 (lo_ ++ [xk]) xo59 xc60 gp76 0 _ (hS.mem.get 3 gl74 (.fn 0 (0 + (lo_ ++ [xk]).length) (s1V (gtD (lo_ ++ [xk])) 0))) hhp78 hl75 hvp77 (by omega)) fun ac wd hS => ?_
        refine hS.opsC 1 [0] [4, 5, 6, 24, 25, 26] fun _ => seg [(96, vb false)] [(0, none), (1, none), (2, none)] [] trivial fun ac wd hS => ?_
        refine list_nil_seq ?_
        refine hS.condF ?_
        refine wp_skip ?_
        refine pop_block ?_
        refine pop_then ?_
        refine hS.regC [20, 0] [4, 5, 6, 24, 25] fun _ => seg [(26, vi (x26 + 1))] [(0, none), (1, none), (2, none)] [.p (fit .i64 (x26 + 1))] ⟨fit_i64 (by omega), trivial⟩ fun ac wd hS => ?_
        exact pop_then (hS.next ((x26 + 1), F53, (dPutM mx 40 384 tL [(xk, xn)]), (dPutL (384 / 32) tL [(xk, xn)]), xo59, xc60, F61, (lo_ ++ [xk])) ⟨(by omega), (by first | exact hRc | exact i1), (by first | exact hlc | exact i2), trivial⟩ (by dsimp only; omega))
      ·
       have hO1 : lo_ = List.map (fun x_ => x_.1) (dPutL (384 / 32) tL [(xk, xn)]) := by rw [i2, sOf_map] at *; exact (ord_set1 he0 (by have h9_ := hb58; simpa using h9_)).symm ▸ rfl
       refine wp_skip ?_
       refine pop_then ?_
       have hRc : DtR (dPutM mx 40 384 tL [(xk, xn)]) 40 384 (dPutL (384 / 32) tL [(xk, xn)]) := i1.put hxr
       have hlc : lo_ = List.map (fun x_ => x_.1) (dPutL (384 / 32) tL [(xk, xn)]) := by first | exact hO1 | (rw [hO0]; exact i2) | (rw [hO2, i2]; done) | (rw [hO2, hki, ← i2]; done) | (rw [hO2, hki, ← i2, show Int.toNat (dOf tL xk + 1) = Int.toNat (dOf tL xk) + 1 by omega])
       have hll := congrArg List.length hlc
       have hle := hRc.okd.len
       rw [List.length_map] at hll
       refine hS.regS [0] [4, 5, 6, 24, 25, 26] fun _ => seg [(11, vnil)] [(0, none), (1, none), (2, none)] [] trivial fun ac wd hS => ?_
       refine wp_seq ?_
       replace hS := hS.to (hS.mem.grNew 9 1 (s1V (gtD ([] : List ByteArray)) 0))
       refine wp_region_seq ?_
       refine hS.opsC 1 [200] [4, 5, 6, 11, 24, 25, 26] fun _ => seg [(80, .agg #[pt b'4 0, vi 40, vi 384])] [(0, none), (1, none), (2, none)] [.e (ν6 0), .e (ν6 0), .e (ν6 0)] trivial fun ac wd hS => ?_
       refine hS.callC 70 #[.agg #[pt b'4 0, vi 40, vi 384]] (d_All b'4 F53 (dPutM mx 40 384 tL [(xk, xn)]) 40 384 (dPutL (384 / 32) tL [(xk, xn)]) _ (hS.mem.res 0) (hS.mem.get 0 0 (.fn 0 64 dbT)) (by first | assumption | omega | (simp_all; done) | (simp_all; omega)) (by exact hRc)) ?_
       rintro _ wd ⟨ao279, c280, g281, o282, rfl, hv283, hog0, hoh0, hF⟩
       have ho84 : g281 = 0 ∨ w.heap.size ≤ g281 := by have := hS.mem.fr.size; have : w.heap.size ≤ _ := this; omega
       refine ⟨.slice ao279 ((dPutL (384 / 32) tL [(xk, xn)]).length) c280, rfl, ?_⟩
       replace hS := (hS.to (hS.mem.outs hF [(g281, .fn o282 (o282 + (dPutL (384 / 32) tL [(xk, xn)]).length * 2) (itV (gtD (dPutL (384 / 32) tL [(xk, xn)])) o282))] ⟨⟨rfl, hoh0, (fun q_ => q_.elim (fun e => .inl ⟨0, .fn 0 64 dbT, by rw [e]; as_aux_lemma => kernel_rfl, rfl⟩) (fun q_ => .inr q_)) hog0⟩, trivial⟩)).put (d := 81) (v := .slice ao279 ((dPutL (384 / 32) tL [(xk, xn)]).length) c280) (by decide)
       clear hF
       refine hS.opsC 2 [0, 0] [4, 5, 6, 11, 24, 25, 26, 81] fun _ => seg [(82, vi (((dPutL (384 / 32) tL [(xk, xn)]).length : Nat) : Int)), (83, vi 0)] [(0, none), (1, none), (2, none), (3, none)] [] trivial fun ac wd hS => ?_
       refine list_nil_seq ?_
       refine wp_block ?_
       refine St.loopC (σ := Int × Option Addr × Nat × (Nat → Prop) × List ByteArray) (fun (x : Int × Option Addr × Nat × (Nat → Prop) × List ByteArray) => match x with | (x83, an_, cn_, Fn_, ln_) => ⟨[(4, [], pt (ν6 0) 0), (5, [], vb true), (6, [], .slice ao_ lo_.length co_), (11, [], .slice an_ ln_.length cn_), (24, [], sc g7 o7 l.length c7), (25, [], vi ((l.length : Nat) : Int)), (26, [], vi x26), (81, [], .slice ao279 ((dPutL (384 / 32) tL [(xk, xn)]).length) c280), (82, [], vi (((dPutL (384 / 32) tL [(xk, xn)]).length : Nat) : Int)), (83, [], vi x83)], [(0, .fn 0 64 dbT), (g7, .fn o7 (o7 + l.length * 2) (aDV (gtD l) o7)), ((ν6 0), .cells [pt b'4 0, vi 40, vi 384] 125), (g281, .fn o282 (o282 + (dPutL (384 / 32) tL [(xk, xn)]).length * 2) (itV (gtD (dPutL (384 / 32) tL [(xk, xn)])) o282))], [arR b'4 F53 (dPutM mx 40 384 tL [(xk, xn)]), geR 9 1 (.slice ao_ lo_.length co_) Fo_ (lo_.length, (s1V (gtD lo_) 0)), grR 9 1 (.slice an_ ln_.length cn_) Fn_ (ln_.length, (s1V (gtD ln_) 0))], (0 ≤ x83 ∧ x83 ≤ (((dPutL (384 / 32) tL [(xk, xn)]).length : Nat) : Int)) ∧ (ln_ = (List.map (fun x_ => x_.1) (dPutL (384 / 32) tL [(xk, xn)])).take (Int.toNat x83)) ∧ True, (dPutL (384 / 32) tL [(xk, xn)]).length - Int.toNat x83⟩) (0, none, 0, no, []) ⟨(by omega), (by rfl), trivial⟩ hS ?_
       clear hS
       rintro ⟨x83, an_, cn_, Fn_, ln_⟩ ⟨j0, j1, -⟩ ac wd hS
       replace j0 : 0 ≤ x83 ∧ x83 ≤ (((dPutL (384 / 32) tL [(xk, xn)]).length : Nat) : Int) := j0
       replace j1 : ln_ = (List.map (fun x_ => x_.1) (dPutL (384 / 32) tL [(xk, xn)])).take (Int.toNat x83) := j1
       refine hS.regS [0] [4, 5, 6, 11, 24, 25, 26, 81, 82, 83] fun _ => seg [(84, vb (decide ((x83 : Int) < (((dPutL (384 / 32) tL [(xk, xn)]).length : Nat) : Int))))] [(0, none), (1, none), (2, none), (3, none)] [] trivial fun ac wd hS => ?_
       refine wp_seq ?_
       refine hS.condC (decide ((x83 : Int) < (((dPutL (384 / 32) tL [(xk, xn)]).length : Nat) : Int))) (fun hb85o hb85 => ?_) (fun hb85o hb85 => ?_)
       ·
        refine wp_skip ?_
        refine pop_then ?_
        refine wp_seq ?_
        refine wp_block ?_
        obtain rfl : ao279 = some ⟨g281, o282, none⟩ := Or.resolve_left hv283 (by omega)
        refine hS.regS [20, fx 300 (.agg #[.string (((gtD (dPutL (384 / 32) tL [(xk, xn)])) (Int.toNat x83)).1), vu (((gtD (dPutL (384 / 32) tL [(xk, xn)])) (Int.toNat x83)).2)]), 0, 400] [4, 5, 6, 11, 24, 25, 26, 81, 82, 83] fun ν63 => seg [(13, pt (ν63 0) 0)] [(0, none), (1, none), (2, none), (3, none), (4, some ((ν63 0), .cells [.string (((gtD (dPutL (384 / 32) tL [(xk, xn)])) (Int.toNat x83)).1), vu (((gtD (dPutL (384 / 32) tL [(xk, xn)])) (Int.toNat x83)).2)] 133))] [.e (ν63 0), .e (ν63 0), .p ((.agg #[((itV (gtD (dPutL (384 / 32) tL [(xk, xn)])) o282) (o282 + Int.toNat x83 * 2)), ((itV (gtD (dPutL (384 / 32) tL [(xk, xn)])) o282) (o282 + Int.toNat x83 * 2 + 1))] : Value) = .agg #[.string (((gtD (dPutL (384 / 32) tL [(xk, xn)])) (Int.toNat x83)).1), vu (((gtD (dPutL (384 / 32) tL [(xk, xn)])) (Int.toNat x83)).2)]), .e g281, .p (o282 ≤ o282 + Int.toNat x83 * 2 + 1 ∧ o282 + Int.toNat x83 * 2 + 1 < (o282 + (dPutL (384 / 32) tL [(xk, xn)]).length * 2)), .e g281, .p (o282 ≤ o282 + Int.toNat x83 * 2 ∧ o282 + Int.toNat x83 * 2 < (o282 + (dPutL (384 / 32) tL [(xk, xn)]).length * 2)), .p ((0 : Int) ≤ x83 ∧ (x83 : Int) < (((dPutL (384 / 32) tL [(xk, xn)]).length : Nat) : Int))] ⟨(agg2 (itV_0 (gtD (dPutL (384 / 32) tL [(xk, xn)])) o282 (Int.toNat x83)) (itV_1 (gtD (dPutL (384 / 32) tL [(xk, xn)])) o282 (Int.toNat x83))), (by omega), (by omega), (by omega), trivial⟩ fun ac wd hS => ?_
        refine wp_region_lit ?_
        refine hS.opsC 4 [0, 0, 400, 0] [4, 5, 6, 11, 24, 25, 26, 81, 82, 83] fun ν64 => seg [(87, .slice an_ ln_.length cn_), (90, sc (ν64 0) 0 1 1)] [(0, none), (1, none), (2, none), (3, none), (5, some ((ν64 0), .cells [.string (((gtD (dPutL (384 / 32) tL [(xk, xn)])) (Int.toNat x83)).1)] 9))] [.e (ν63 0)] trivial fun ac wd hS => ?_
        obtain ⟨i_, hi_, hz_, hs_, hb_⟩ := info_get (P := Tryd.prog) (e := 9) (z := .string (ByteArray.empty)) (s := 1) (b := 16) (by kernel_rfl)
        refine Runs1.list ?_
        refine St.appV (m := ln_.length) (f := (s1V (gtD ln_) 0)) (news := [.string (((gtD (dPutL (384 / 32) tL [(xk, xn)])) (Int.toNat x83)).1)]) (bx := (ν64 0)) (cx := 1) (Tx := 9) 2 hS (.tmp 87) (.tmp 90) 54 rfl rfl (by decide) Tryd.underlying54 hi_ hz_ hs_ (by omega) rfl (by decide) 4 rfl rfl (by first | omega | (simp only [List.length_nil]; omega) | (simp only [List.length_append, List.length_take]; omega) | (rw [j1, List.length_take, List.length_map]; omega)) fun ac wd v2_ F88 hB89 hS => ?_
        obtain ⟨xo86, xc87, rfl⟩ := hB89.slice
        replace hS := hS.to (hS.mem.grTell (m := (ln_.length + 1)) 2 (s1V (gtD (ln_ ++ [((gtD (dPutL (384 / 32) tL [(xk, xn)])) (Int.toNat x83)).1])) 0) (s1V_app ln_ (((gtD (dPutL (384 / 32) tL [(xk, xn)])) (Int.toNat x83)).1)))
        have hm_ : ln_.length + 1 = ((ln_ ++ [((gtD (dPutL (384 / 32) tL [(xk, xn)])) (Int.toNat x83)).1])).length := by simp
        replace hS := hS.to (hS.mem.grRe (v := .slice xo86 (ln_.length + 1) xc87) (v' := .slice xo86 (((ln_ ++ [((gtD (dPutL (384 / 32) tL [(xk, xn)])) (Int.toNat x83)).1])).length) xc87) (m := (ln_.length + 1)) (m' := ((ln_ ++ [((gtD (dPutL (384 / 32) tL [(xk, xn)])) (Int.toNat x83)).1])).length) (f := (s1V (gtD (ln_ ++ [((gtD (dPutL (384 / 32) tL [(xk, xn)])) (Int.toNat x83)).1])) 0)) 2 (by rw [hm_]) hm_)
        replace hS := hS.fix 91 (.slice xo86 (((ln_ ++ [((gtD (dPutL (384 / 32) tL [(xk, xn)])) (Int.toNat x83)).1])).length) xc87) (show (.slice xo86 (ln_.length + 1) xc87 : Value) = .slice xo86 (((ln_ ++ [((gtD (dPutL (384 / 32) tL [(xk, xn)])) (Int.toNat x83)).1])).length) xc87 by rw [hm_])
        refine hS.opsC 1 [0] [4, 5, 6, 24, 25, 26, 81, 82, 83] fun _ => seg [(11, .slice xo86 (((ln_ ++ [((gtD (dPutL (384 / 32) tL [(xk, xn)])) (Int.toNat x83)).1])).length) xc87)] [(0, none), (1, none), (2, none), (3, none)] [] trivial fun ac wd hS => ?_
        refine list_nil ?_
        refine pop_block ?_
        refine pop_then ?_
        refine hS.regC [20, 0] [4, 5, 6, 11, 24, 25, 26, 81, 82] fun _ => seg [(83, vi (x83 + 1))] [(0, none), (1, none), (2, none), (3, none)] [.p (fit .i64 (x83 + 1))] ⟨fit_i64 (by omega), trivial⟩ fun ac wd hS => ?_
        exact pop_then (hS.next ((x83 + 1), xo86, xc87, F88, (ln_ ++ [((gtD (dPutL (384 / 32) tL [(xk, xn)])) (Int.toNat x83)).1])) ⟨(by omega), (by exact now_step j1 j0.1 (by omega)), trivial⟩ (by dsimp only; omega))
       ·
        refine wp_exit ?_
        refine pop_then_exit ?_
        refine pop_then_exit ?_
        refine pop_block_hit ?_
        refine pop_then ?_
        replace hS := hS.to (hS.mem.geOf (e := 9) (sz := 1) (v := (.slice an_ ln_.length cn_)) (F := Fn_) (q := (ln_.length, (s1V (gtD ln_) 0))) 2)
        obtain ⟨gl90, hl91, hgc_, hO⟩ := WS.geList (e := 9) (sz := 1) (m := ln_.length) (F := Fn_) (f := (s1V (gtD ln_) 0)) (ao := an_) (c2 := cn_) hS.mem 2 0 (b := 0) (lo := 0) (hi := 64) (fd := dbT) (h2 := 0 + ln_.length) (hh := by omega)
        replace hS := hS.to hO
        clear hO
        have hq_ : lo_ = ln_ := (show ln_ = lo_ by rw [j1, List.take_of_length_le (by rw [List.length_map]; omega)]; exact hlc.symm).symm
        subst hq_
        refine wp_region_seq ?_
        refine hS.opsC 2 [0, 0] [4, 5, 6, 24, 25, 26] fun _ => seg [(93, .slice an_ lo_.length cn_), (94, .slice ao_ lo_.length co_)] [(0, none), (1, none), (2, none), (4, none)] [] trivial fun ac wd hS => ?_
        obtain ⟨gp92, hvp93, hhp94⟩ := geR.peek (e := 9) (sz := 1) (m := lo_.length) (F := Fo_) (f := (s1V (gtD lo_) 0)) (ao := ao_) (c2 := co_) (hS.mem.res 1) (hS.mem.get 0 0 (.fn 0 64 dbT)) (0 + lo_.length) (by omega)
        refine hS.call0 73 #[.slice an_ lo_.length cn_, .slice ao_ lo_.length co_] 95 (eq_strings an_ cn_ gl90 0 lo_ ao_ co_ gp92 0 _ (hS.mem.get 3 gl90 (.fn 0 (0 + lo_.length) (s1V (gtD lo_) 0))) hhp94 hl91 hvp93 (by omega)) fun ac wd hS => ?_
        refine hS.opsC 1 [0] [4, 5, 6, 24, 25, 26] fun _ => seg [(96, vb false)] [(0, none), (1, none), (2, none)] [] trivial fun ac wd hS => ?_
        refine list_nil_seq ?_
        refine hS.condF ?_
        refine wp_skip ?_
        refine pop_block ?_
        refine pop_then ?_
        refine hS.regC [20, 0] [4, 5, 6, 24, 25] fun _ => seg [(26, vi (x26 + 1))] [(0, none), (1, none), (2, none)] [.p (fit .i64 (x26 + 1))] ⟨fit_i64 (by omega), trivial⟩ fun ac wd hS => ?_
        exact pop_then (hS.next ((x26 + 1), F53, (dPutM mx 40 384 tL [(xk, xn)]), (dPutL (384 / 32) tL [(xk, xn)]), ao_, co_, Fo_, lo_) ⟨(by omega), (by first | exact hRc | exact i1), (by first | exact hlc | exact i2), trivial⟩ (by dsimp only; omega))
     ·
      have hg54 := nrm hg54o
      have hO0 := ord_set0 (x := (xk, xn)) hg54
      replace hS := hS.fix 68 (vb false) (congrArg Value.bool hg54o)
      refine hS.opsC 6 [2, 2, 2, 2, 2, 60] [4, 5, 6, 9, 24, 25, 26] fun _ => seg [(74, vb false)] [(0, none), (1, none), (2, none), (3, none)] [.t false, .t false, .t false, .t false, .t false, .t false] trivial fun ac wd hS => ?_
      refine list_nil_seq ?_
      refine hS.condF ?_
      refine wp_skip ?_
      refine pop_then ?_
      have hRc : DtR (dPutM mx 40 384 tL [(xk, xn)]) 40 384 (dPutL (384 / 32) tL [(xk, xn)]) := i1.put hxr
      have hlc : lo_ = List.map (fun x_ => x_.1) (dPutL (384 / 32) tL [(xk, xn)]) := by first | exact hO1 | (rw [hO0]; exact i2) | (rw [hO2, i2]; done) | (rw [hO2, hki, ← i2]; done) | (rw [hO2, hki, ← i2, show Int.toNat (dOf tL xk + 1) = Int.toNat (dOf tL xk) + 1 by omega])
      have hll := congrArg List.length hlc
      have hle := hRc.okd.len
      rw [List.length_map] at hll
      refine hS.regS [0] [4, 5, 6, 24, 25, 26] fun _ => seg [(11, vnil)] [(0, none), (1, none), (2, none)] [] trivial fun ac wd hS => ?_
      refine wp_seq ?_
      replace hS := hS.to (hS.mem.grNew 9 1 (s1V (gtD ([] : List ByteArray)) 0))
      refine wp_region_seq ?_
      refine hS.opsC 1 [200] [4, 5, 6, 11, 24, 25, 26] fun _ => seg [(80, .agg #[pt b'4 0, vi 40, vi 384])] [(0, none), (1, none), (2, none)] [.e (ν6 0), .e (ν6 0), .e (ν6 0)] trivial fun ac wd hS => ?_
      refine hS.callC 70 #[.agg #[pt b'4 0, vi 40, vi 384]] (d_All b'4 F53 (dPutM mx 40 384 tL [(xk, xn)]) 40 384 (dPutL (384 / 32) tL [(xk, xn)]) _ (hS.mem.res 0) (hS.mem.get 0 0 (.fn 0 64 dbT)) (by first | assumption | omega | (simp_all; done) | (simp_all; omega)) (by exact hRc)) ?_
      rintro _ wd ⟨ao295, c296, g297, o298, rfl, hv299, hog0, hoh0, hF⟩
      have ho100 : g297 = 0 ∨ w.heap.size ≤ g297 := by have := hS.mem.fr.size; have : w.heap.size ≤ _ := this; omega
      refine ⟨.slice ao295 ((dPutL (384 / 32) tL [(xk, xn)]).length) c296, rfl, ?_⟩
      replace hS := (hS.to (hS.mem.outs hF [(g297, .fn o298 (o298 + (dPutL (384 / 32) tL [(xk, xn)]).length * 2) (itV (gtD (dPutL (384 / 32) tL [(xk, xn)])) o298))] ⟨⟨rfl, hoh0, (fun q_ => q_.elim (fun e => .inl ⟨0, .fn 0 64 dbT, by rw [e]; as_aux_lemma => kernel_rfl, rfl⟩) (fun q_ => .inr q_)) hog0⟩, trivial⟩)).put (d := 81) (v := .slice ao295 ((dPutL (384 / 32) tL [(xk, xn)]).length) c296) (by decide)
      clear hF
      refine hS.opsC 2 [0, 0] [4, 5, 6, 11, 24, 25, 26, 81] fun _ => seg [(82, vi (((dPutL (384 / 32) tL [(xk, xn)]).length : Nat) : Int)), (83, vi 0)] [(0, none), (1, none), (2, none), (3, none)] [] trivial fun ac wd hS => ?_
      refine list_nil_seq ?_
      refine wp_block ?_
      refine St.loopC (σ := Int × Option Addr × Nat × (Nat → Prop) × List ByteArray) (fun (x : Int × Option Addr × Nat × (Nat → Prop) × List ByteArray) => match x with | (x83, an_, cn_, Fn_, ln_) => ⟨[(4, [], pt (ν6 0) 0), (5, [], vb true), (6, [], .slice ao_ lo_.length co_), (11, [], .slice an_ ln_.length cn_), (24, [], sc g7 o7 l.length c7), (25, [], vi ((l.length : Nat) : Int)), (26, [], vi x26), (81, [], .slice ao295 ((dPutL (384 / 32) tL [(xk, xn)]).length) c296), (82, [], vi (((dPutL (384 / 32) tL [(xk, xn)]).length : Nat) : Int)), (83, [], vi x83)], [(0, .fn 0 64 dbT), (g7, .fn o7 (o7 + l.length * 2) (aDV (gtD l) o7)), ((ν6 0), .cells [pt b'4 0, vi 40, vi 384] 125), (g297, .fn o298 (o298 + (dPutL (384 / 32) tL [(xk, xn)]).length * 2) (itV (gtD (dPutL (384 / 32) tL [(xk, xn)])) o298))], [arR b'4 F53 (dPutM mx 40 384 tL [(xk, xn)]), geR 9 1 (.slice ao_ lo_.length co_) Fo_ (lo_.length, (s1V (gtD lo_) 0)), grR 9 1 (.slice an_ ln_.length cn_) Fn_ (ln_.length, (s1V (gtD ln_) 0))], (0 ≤ x83 ∧ x83 ≤ (((dPutL (384 / 32) tL [(xk, xn)]).length : Nat) : Int)) ∧ (ln_ = (List.map (fun x_ => x_.1) (dPutL (384 / 32) tL [(xk, xn)])).take (Int.toNat x83)) ∧ True, (dPutL (384 / 32) tL [(xk, xn)]).length - Int.toNat x83⟩) (0, none, 0, no, []) ⟨(by omega), (by rfl), trivial⟩ hS ?_
      clear hS
      rintro ⟨x83, an_, cn_, Fn_, ln_⟩ ⟨j0, j1, -⟩ ac wd hS
      replace j0 : 0 ≤ x83 ∧ x83 ≤ (((dPutL (384 / 32) tL [(xk, xn)]).length : Nat) : Int) := j0
      replace j1 : ln_ = (List.map (fun x_ => x_.1) (dPutL (384 / 32) tL [(xk, xn)])).take (Int.toNat x83) := j1
      refine hS.regS [0] [4, 5, 6, 11, 24, 25, 26, 81, 82, 83] fun _ => seg [(84, vb (decide ((x83 : Int) < (((dPutL (384 / 32) tL [(xk, xn)]).length : Nat) : Int))))] [(0, none), (1, none), (2, none), (3, none)] [] trivial fun ac wd hS => ?_
      refine wp_seq ?_
      refine hS.condC (decide ((x83 : Int) < (((dPutL (384 / 32) tL [(xk, xn)]).length : Nat) : Int))) (fun hb101o hb101 => ?_) (fun hb101o hb101 => ?_)
      ·
       refine wp_skip ?_
       refine pop_then ?_
       refine wp_seq ?_
       refine wp_block ?_
       obtain rfl : ao295 = some ⟨g297, o298, none⟩ := Or.resolve_left hv299 (by omega)
       refine hS.regS [20, fx 300 (.agg #[.string (((gtD (dPutL (384 / 32) tL [(xk, xn)])) (Int.toNat x83)).1), vu (((gtD (dPutL (384 / 32) tL [(xk, xn)])) (Int.toNat x83)).2)]), 0, 400] [4, 5, 6, 11, 24, 25, 26, 81, 82, 83] fun ν75 => seg [(13, pt (ν75 0) 0)] [(0, none), (1, none), (2, none), (3, none), (4, some ((ν75 0), .cells [.string (((gtD (dPutL (384 / 32) tL [(xk, xn)])) (Int.toNat x83)).1), vu (((gtD (dPutL (384 / 32) tL [(xk, xn)])) (Int.toNat x83)).2)] 133))] [.e (ν75 0), .e (ν75 0), .p ((.agg #[((itV (gtD (dPutL (384 / 32) tL [(xk, xn)])) o298) (o298 + Int.toNat x83 * 2)), ((itV (gtD (dPutL (384 / 32) tL [(xk, xn)])) o298) (o298 + Int.toNat x83 * 2 + 1))] : Value) = .agg #[.string (((gtD (dPutL (384 / 32) tL [(xk, xn)])) (Int.toNat x83)).1), vu (((gtD (dPutL (384 / 32) tL [(xk, xn)])) (Int.toNat x83)).2)]), .e g297, .p (o298 ≤ o298 + Int.toNat x83 * 2 + 1 ∧ o298 + Int.toNat x83 * 2 + 1 < (o298 + (dPutL (384 / 32) tL [(xk, xn)]).length * 2)), .e g297, .p (o298 ≤ o298 + Int.toNat x83 * 2 ∧ o298 + Int.toNat x83 * 2 < (o298 + (dPutL (384 / 32) tL [(xk, xn)]).length * 2)), .p ((0 : Int) ≤ x83 ∧ (x83 : Int) < (((dPutL (384 / 32) tL [(xk, xn)]).length : Nat) : Int))] ⟨(agg2 (itV_0 (gtD (dPutL (384 / 32) tL [(xk, xn)])) o298 (Int.toNat x83)) (itV_1 (gtD (dPutL (384 / 32) tL [(xk, xn)])) o298 (Int.toNat x83))), (by omega), (by omega), (by omega), trivial⟩ fun ac wd hS => ?_
       refine wp_region_lit ?_
       refine hS.opsC 4 [0, 0, 400, 0] [4, 5, 6, 11, 24, 25, 26, 81, 82, 83] fun ν76 => seg [(87, .slice an_ ln_.length cn_), (90, sc (ν76 0) 0 1 1)] [(0, none), (1, none), (2, none), (3, none), (5, some ((ν76 0), .cells [.string (((gtD (dPutL (384 / 32) tL [(xk, xn)])) (Int.toNat x83)).1)] 9))] [.e (ν75 0)] trivial fun ac wd hS => ?_
       obtain ⟨i_, hi_, hz_, hs_, hb_⟩ := info_get (P := Tryd.prog) (e := 9) (z := .string (ByteArray.empty)) (s := 1) (b := 16) (by kernel_rfl)
       refine Runs1.list ?_
       refine St.appV (m := ln_.length) (f := (s1V (gtD ln_) 0)) (news := [.string (((gtD (dPutL (384 / 32) tL [(xk, xn)])) (Int.toNat x83)).1)]) (bx := (ν76 0)) (cx := 1) (Tx := 9) 2 hS (.tmp 87) (.tmp 90) 54 rfl rfl (by decide) Tryd.underlying54 hi_ hz_ hs_ (by omega) rfl (by decide) 4 rfl rfl (by first | omega | (simp only [List.length_nil]; omega) | (simp only [List.length_append, List.length_take]; omega) | (rw [j1, List.length_take, List.length_map]; omega)) fun ac wd v2_ F104 hB105 hS => ?_
       obtain ⟨xo102, xc103, rfl⟩ := hB105.slice
       replace hS := hS.to (hS.mem.grTell (m := (ln_.length + 1)) 2 (s1V (gtD (ln_ ++ [((gtD (dPutL (384 / 32) tL [(xk, xn)])) (Int.toNat x83)).1])) 0) (s1V_app ln_ (((gtD (dPutL (384 / 32) tL [(xk, xn)])) (Int.toNat x83)).1)))
       have hm_ : ln_.length + 1 = ((ln_ ++ [((gtD (dPutL (384 / 32) tL [(xk, xn)])) (Int.toNat x83)).1])).length := by simp
       replace hS := hS.to (hS.mem.grRe (v := .slice xo102 (ln_.length + 1) xc103) (v' := .slice xo102 (((ln_ ++ [((gtD (dPutL (384 / 32) tL [(xk, xn)])) (Int.toNat x83)).1])).length) xc103) (m := (ln_.length + 1)) (m' := ((ln_ ++ [((gtD (dPutL (384 / 32) tL [(xk, xn)])) (Int.toNat x83)).1])).length) (f := (s1V (gtD (ln_ ++ [((gtD (dPutL (384 / 32) tL [(xk, xn)])) (Int.toNat x83)).1])) 0)) 2 (by rw [hm_]) hm_)
       replace hS := hS.fix 91 (.slice xo102 (((ln_ ++ [((gtD (dPutL (384 / 32) tL [(xk, xn)])) (Int.toNat x83)).1])).length) xc103) (show (.slice xo102 (ln_.length + 1) xc103 : Value) = .slice xo102 (((ln_ ++ [((gtD (dPutL (384 / 32) tL [(xk, xn)])) (Int.toNat x83)).1])).length) xc103 by rw [hm_])
       refine hS.opsC 1 [0] [4, 5, 6, 24, 25, 26, 81, 82, 83] fun _ => seg [(11, .slice xo102 (((ln_ ++ [((gtD (dPutL (384 / 32) tL [(xk, xn)])) (Int.toNat x83)).1])).length) xc103)] [(0, none), (1, none), (2, none), (3, none)] [] trivial fun ac wd hS => ?_
       refine list_nil ?_
       refine pop_block ?_
       refine pop_then ?_
       refine hS.regC [20, 0] [4, 5, 6, 11, 24, 25, 26, 81, 82] fun _ => seg [(83, vi (x83 + 1))] [(0, none), (1, none), (2, none), (3, none)] [.p (fit .i64 (x83 + 1))] ⟨fit_i64 (by omega), trivial⟩ fun ac wd hS => ?_
       exact pop_then (hS.next ((x83 + 1), xo102, xc103, F104, (ln_ ++ [((gtD (dPutL (384 / 32) tL [(xk, xn)])) (Int.toNat x83)).1])) ⟨(by omega), (by exact now_step j1 j0.1 (by omega)), trivial⟩ (by dsimp only; omega))
      ·
       refine wp_exit ?_
       refine pop_then_exit ?_
       refine pop_then_exit ?_
       refine pop_block_hit ?_
       refine pop_then ?_
       replace hS := hS.to (hS.mem.geOf (e := 9) (sz := 1) (v := (.slice an_ ln_.length cn_)) (F := Fn_) (q := (ln_.length, (s1V (gtD ln_) 0))) 2)
       obtain ⟨gl106, hl107, hgc_, hO⟩ := WS.geList (e := 9) (sz := 1) (m := ln_.length) (F := Fn_) (f := (s1V (gtD ln_) 0)) (ao := an_) (c2 := cn_) hS.mem 2 0 (b := 0) (lo := 0) (hi := 64) (fd := dbT) (h2 := 0 + ln_.length) (hh := by omega)
       replace hS := hS.to hO
       clear hO
       have hq_ : lo_ = ln_ := (show ln_ = lo_ by rw [j1, List.take_of_length_le (by rw [List.length_map]; omega)]; exact hlc.symm).symm
       subst hq_
       refine wp_region_seq ?_
       refine hS.opsC 2 [0, 0] [4, 5, 6, 24, 25, 26] fun _ => seg [(93, .slice an_ lo_.length cn_), (94, .slice ao_ lo_.length co_)] [(0, none), (1, none), (2, none), (4, none)] [] trivial fun ac wd hS => ?_
       obtain ⟨gp108, hvp109, hhp110⟩ := geR.peek (e := 9) (sz := 1) (m := lo_.length) (F := Fo_) (f := (s1V (gtD lo_) 0)) (ao := ao_) (c2 := co_) (hS.mem.res 1) (hS.mem.get 0 0 (.fn 0 64 dbT)) (0 + lo_.length) (by omega)
       refine hS.call0 73 #[.slice an_ lo_.length cn_, .slice ao_ lo_.length co_] 95 (eq_strings an_ cn_ gl106 0 lo_ ao_ co_ gp108 0 _ (hS.mem.get 3 gl106 (.fn 0 (0 + lo_.length) (s1V (gtD lo_) 0))) hhp110 hl107 hvp109 (by omega)) fun ac wd hS => ?_
       refine hS.opsC 1 [0] [4, 5, 6, 24, 25, 26] fun _ => seg [(96, vb false)] [(0, none), (1, none), (2, none)] [] trivial fun ac wd hS => ?_
       refine list_nil_seq ?_
       refine hS.condF ?_
       refine wp_skip ?_
       refine pop_block ?_
       refine pop_then ?_
       refine hS.regC [20, 0] [4, 5, 6, 24, 25] fun _ => seg [(26, vi (x26 + 1))] [(0, none), (1, none), (2, none)] [.p (fit .i64 (x26 + 1))] ⟨fit_i64 (by omega), trivial⟩ fun ac wd hS => ?_
       exact pop_then (hS.next ((x26 + 1), F53, (dPutM mx 40 384 tL [(xk, xn)]), (dPutL (384 / 32) tL [(xk, xn)]), ao_, co_, Fo_, lo_) ⟨(by omega), (by first | exact hRc | exact i1), (by first | exact hlc | exact i2), trivial⟩ (by dsimp only; omega))
  ·
   refine wp_exit ?_
   refine pop_then_exit ?_
   refine pop_then_exit ?_
   refine pop_block_hit ?_
   refine pop_then ?_
   refine hS.regS [0, 0] [] fun _ => seg [(2, vb true)] [(0, none)] [] trivial fun ac wd hS => ?_
   refine wp_ret ?_
   refine St.retC 0 hS (vb true) [] trivial fun hw => ?_
   refine ⟨retd rfl, hw.fr0⟩

end Go.Proofs.YtnbkafnikpbmbaaDoor.K
