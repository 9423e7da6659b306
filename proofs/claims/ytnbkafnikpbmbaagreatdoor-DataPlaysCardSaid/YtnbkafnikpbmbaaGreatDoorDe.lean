/-
  Walks, printed by w2.py.
-/
import Derived.Test.YtnbkafnikpbmbaaGreatDoorDc
import Derived.Test.YtnbkafnikpbmbaaGreatDoorDv
import Derived.Test.YtnbkafnikpbmbaaGreatDoorFe
import Derived.Test.YtnbkafnikpbmbaaGreatDoorOb
import Derived.Test.YtnbkafnikpbmbaaGreatDoorGe
import Derived.Test.YtnbkafnikpbmbaaGreatDoorLk
import Derived.Test.YtnbkafnikpbmbaaGreatDoorProg
namespace Go.Proofs.YtnbkafnikpbmbaaGreatDoor.K
set_option linter.unusedVariables false
set_option linter.unusedSimpArgs false

set_option maxRecDepth 100000 in
set_option maxHeartbeats 1000000 in
theorem eq_items (ao1 : Option Addr) (c1 : Nat) (g1 : Nat) (o1 : Nat) (l : List (ByteArray × Int)) (ao2 : Option Addr) (c2 : Nat) (g2 : Nat) (o2 : Nat) (w : World) (hh0 : HE.holds w g1 (.fn o1 (o1 + l.length * 2) (itV (gtD l) o1))) (hh1 : HE.holds w g2 (.fn o2 (o2 + l.length * 2) (itV (gtD l) o2))) (hv1 : (l.length = 0 ∨ ao1 = some ⟨g1, o1, none⟩)) (hv2 : (l.length = 0 ∨ ao2 = some ⟨g2, o2, none⟩)) (hl : l.length ≤ 4294967295) :
    Calls Tryz.prog 22 #[.slice ao1 l.length c1, .slice ao2 l.length c2] w fun e w' => e = .returned (vb true) ∧ Fr w w' no no := by
 refine enter (args := [.slice ao1 l.length c1, .slice ao2 l.length c2]) (D := no) (A := []) Tryz.func22 rfl 26 rfl [(g1, .fn o1 (o1 + l.length * 2) (itV (gtD l) o1)), (g2, .fn o2 (o2 + l.length * 2) (itV (gtD l) o2))] (WS.startL ⟨⟨rfl, hh0⟩, ⟨rfl, hh1⟩, trivial⟩) fun ac hS => ?_
 refine hS.regS [0] [0, 1] fun _ => seg [] [(0, none), (1, none)] [] trivial fun ac wd hS => ?_
 refine wp_seq ?_
 refine hS.regS [0, 0, 0, 0, fx 0 (vb false)] [0, 1] fun _ => seg [(10, vb false)] [(0, none), (1, none)] [.p ((vb ((((l.length : Nat) : Int) : Int) != ((l.length : Nat) : Int)) : Value) = vb false)] ⟨(congrArg Value.bool (bne_self_eq_false _)), trivial⟩ fun ac wd hS => ?_
 refine hS.condF ?_
 refine wp_skip ?_
 refine pop_then ?_
 refine wp_seq ?_
 refine hS.regS [0, 0, 0] [0, 1] fun _ => seg [(12, vi ((l.length : Nat) : Int)), (13, vi 0)] [(0, none), (1, none)] [] trivial fun ac wd hS => ?_
 refine wp_block ?_
 refine St.loopC (σ := Int) (fun (x13 : Int) => ⟨[(0, [], .slice ao1 l.length c1), (1, [], .slice ao2 l.length c2), (12, [], vi ((l.length : Nat) : Int)), (13, [], vi x13)], [(g1, .fn o1 (o1 + l.length * 2) (itV (gtD l) o1)), (g2, .fn o2 (o2 + l.length * 2) (itV (gtD l) o2))], [], (0 ≤ x13 ∧ x13 ≤ (l.length : Int)) ∧ True, l.length - Int.toNat x13⟩) 0 ⟨(by omega), trivial⟩ hS ?_
 clear hS
 rintro x13 ⟨i0, -⟩ ac wd hS
 replace i0 : 0 ≤ x13 ∧ x13 ≤ (l.length : Int) := i0
 refine hS.regS [0] [0, 1, 12, 13] fun _ => seg [(14, vb (decide ((x13 : Int) < ((l.length : Nat) : Int))))] [(0, none), (1, none)] [] trivial fun ac wd hS => ?_
 refine wp_seq ?_
 refine hS.condC (decide ((x13 : Int) < ((l.length : Nat) : Int))) (fun hb1o hb1 => ?_) (fun hb1o hb1 => ?_)
 ·
  refine wp_skip ?_
  refine pop_then ?_
  refine wp_seq ?_
  refine wp_block ?_
  refine hS.regS [0, 0] [0, 1, 12, 13] fun _ => seg [(5, vi x13)] [(0, none), (1, none)] [] trivial fun ac wd hS => ?_
  obtain rfl : ao1 = some ⟨g1, o1, none⟩ := Or.resolve_left hv1 (by omega)
  obtain rfl : ao2 = some ⟨g2, o2, none⟩ := Or.resolve_left hv2 (by omega)
  refine St.ordBeginS [(0, 1), (1, 1), (2, 1), (3, 1), (4, 1), (5, 1), (6, 1), (7, 1), (8, 0)] [(g1, .fn o1 (o1 + l.length * 2) (itV (gtD l) o1)), (g2, .fn o2 (o2 + l.length * 2) (itV (gtD l) o2))] [0, 1] hS fun wd hS => ?_
  have hap := hS.mem.pairs (Hf := [(g1, .fn o1 (o1 + l.length * 2) (itV (gtD l) o1)), (g2, .fn o2 (o2 + l.length * 2) (itV (gtD l) o2))]) (l := [0, 1])
  refine St.ordF [0, 0, 20, fx 0 (.agg #[.string (((gtD l) (Int.toNat x13)).1), vu (((gtD l) (Int.toNat x13)).2)]), 0, 0, 20, fx 100 (.agg #[.string (((gtD l) (Int.toNat x13)).1), vu (((gtD l) (Int.toNat x13)).2)])] [0, 1, 2, 3, 4, 5, 6, 7] [0, 1, 12, 13] (rest := [(8, 0)]) hS hap <| segF [(19, .agg #[.string (((gtD l) (Int.toNat x13)).1), vu (((gtD l) (Int.toNat x13)).2)]), (23, .agg #[.string (((gtD l) (Int.toNat x13)).1), vu (((gtD l) (Int.toNat x13)).2)])] [.p ((.agg #[((itV (gtD l) o2) (o2 + Int.toNat x13 * 2)), ((itV (gtD l) o2) (o2 + Int.toNat x13 * 2 + 1))] : Value) = .agg #[.string (((gtD l) (Int.toNat x13)).1), vu (((gtD l) (Int.toNat x13)).2)]), .e g2, .p (o2 ≤ o2 + Int.toNat x13 * 2 + 1 ∧ o2 + Int.toNat x13 * 2 + 1 < (o2 + l.length * 2)), .e g2, .p (o2 ≤ o2 + Int.toNat x13 * 2 ∧ o2 + Int.toNat x13 * 2 < (o2 + l.length * 2)), .p ((0 : Int) ≤ x13 ∧ (x13 : Int) < ((l.length : Nat) : Int)), .p ((.agg #[((itV (gtD l) o1) (o1 + Int.toNat x13 * 2)), ((itV (gtD l) o1) (o1 + Int.toNat x13 * 2 + 1))] : Value) = .agg #[.string (((gtD l) (Int.toNat x13)).1), vu (((gtD l) (Int.toNat x13)).2)]), .e g1, .p (o1 ≤ o1 + Int.toNat x13 * 2 + 1 ∧ o1 + Int.toNat x13 * 2 + 1 < (o1 + l.length * 2)), .e g1, .p (o1 ≤ o1 + Int.toNat x13 * 2 ∧ o1 + Int.toNat x13 * 2 < (o1 + l.length * 2)), .p ((0 : Int) ≤ x13 ∧ (x13 : Int) < ((l.length : Nat) : Int))] ⟨(agg2 (itV_0 (gtD l) o2 (Int.toNat x13)) (itV_1 (gtD l) o2 (Int.toNat x13))), (by omega), (by omega), (by omega), (agg2 (itV_0 (gtD l) o1 (Int.toNat x13)) (itV_1 (gtD l) o1 (Int.toNat x13))), (by omega), (by omega), (by omega), trivial⟩ fun ac hS => ?_
  refine Runs1.ord (i := 8) ?_
  refine St.binS hS .neq (.tmp 19) (.tmp 23) 39 39 rfl rfl (by decide) (xs := #[.string (((gtD l) (Int.toNat x13)).1), vu (((gtD l) (Int.toNat x13)).2)]) (ys := #[.string (((gtD l) (Int.toNat x13)).1), vu (((gtD l) (Int.toNat x13)).2)]) (r := vb false) (fun w => run_neSame w (by as_aux_lemma => kernel_rfl) (by as_aux_lemma => kernel_rfl) (by as_aux_lemma => kernel_rfl)) (by as_aux_lemma => kernel_rfl) fun ac hS => ?_
  refine hS.ordV (l := [0, 1]) ?_
  refine ord_nil ?_
  refine hS.condF ?_
  refine wp_skip ?_
  refine pop_block ?_
  refine pop_then ?_
  refine hS.regC [20, 0] [0, 1, 12] fun _ => seg [(13, vi (x13 + 1))] [(0, none), (1, none)] [.p (fit .i64 (x13 + 1))] ⟨fit_i64 (by omega), trivial⟩ fun ac wd hS => ?_
  exact pop_then (hS.next (x13 + 1) ⟨(by first | omega | assumption | (simp; done) | (simp; omega)), trivial⟩ (by dsimp only; omega))
 ·
  refine wp_exit ?_
  refine pop_then_exit ?_
  refine pop_then_exit ?_
  refine pop_block_hit ?_
  refine pop_then ?_
  refine hS.regS [0] [] fun _ => seg [(4, vb true)] [] [] trivial fun ac wd hS => ?_
  refine wp_ret ?_
  refine St.retC 0 hS (vb true) [] trivial fun hw => ?_
  refine ⟨retd rfl, hw.fr0⟩

set_option maxRecDepth 100000 in
set_option maxHeartbeats 1000000 in
theorem eq_ritems (ao1 : Option Addr) (c1 : Nat) (g1 : Nat) (o1 : Nat) (l : List (ByteArray × Int)) (ao2 : Option Addr) (c2 : Nat) (g2 : Nat) (o2 : Nat) (w : World) (hh0 : HE.holds w g1 (.fn o1 (o1 + l.length * 2) (itV (gtD l) o1))) (hh1 : HE.holds w g2 (.fn o2 (o2 + l.length * 2) (itV (gtD l) o2))) (hv1 : (l.length = 0 ∨ ao1 = some ⟨g1, o1, none⟩)) (hv2 : (l.length = 0 ∨ ao2 = some ⟨g2, o2, none⟩)) (hl : l.length ≤ 4294967295) :
    Calls Tryz.prog 16 #[.slice ao1 l.length c1, .slice ao2 l.length c2] w fun e w' => e = .returned (vb true) ∧ Fr w w' no no := by
 refine enter (args := [.slice ao1 l.length c1, .slice ao2 l.length c2]) (D := no) (A := []) Tryz.func16 rfl 26 rfl [(g1, .fn o1 (o1 + l.length * 2) (itV (gtD l) o1)), (g2, .fn o2 (o2 + l.length * 2) (itV (gtD l) o2))] (WS.startL ⟨⟨rfl, hh0⟩, ⟨rfl, hh1⟩, trivial⟩) fun ac hS => ?_
 refine hS.regS [0] [0, 1] fun _ => seg [] [(0, none), (1, none)] [] trivial fun ac wd hS => ?_
 refine wp_seq ?_
 refine hS.regS [0, 0, 0, 0, fx 0 (vb false)] [0, 1] fun _ => seg [(10, vb false)] [(0, none), (1, none)] [.p ((vb ((((l.length : Nat) : Int) : Int) != ((l.length : Nat) : Int)) : Value) = vb false)] ⟨(congrArg Value.bool (bne_self_eq_false _)), trivial⟩ fun ac wd hS => ?_
 refine hS.condF ?_
 refine wp_skip ?_
 refine pop_then ?_
 refine wp_seq ?_
 refine hS.regS [0, 0, 0] [0, 1] fun _ => seg [(12, vi ((l.length : Nat) : Int)), (13, vi 0)] [(0, none), (1, none)] [] trivial fun ac wd hS => ?_
 refine wp_block ?_
 refine St.loopC (σ := Int) (fun (x13 : Int) => ⟨[(0, [], .slice ao1 l.length c1), (1, [], .slice ao2 l.length c2), (12, [], vi ((l.length : Nat) : Int)), (13, [], vi x13)], [(g1, .fn o1 (o1 + l.length * 2) (itV (gtD l) o1)), (g2, .fn o2 (o2 + l.length * 2) (itV (gtD l) o2))], [], (0 ≤ x13 ∧ x13 ≤ (l.length : Int)) ∧ True, l.length - Int.toNat x13⟩) 0 ⟨(by omega), trivial⟩ hS ?_
 clear hS
 rintro x13 ⟨i0, -⟩ ac wd hS
 replace i0 : 0 ≤ x13 ∧ x13 ≤ (l.length : Int) := i0
 refine hS.regS [0] [0, 1, 12, 13] fun _ => seg [(14, vb (decide ((x13 : Int) < ((l.length : Nat) : Int))))] [(0, none), (1, none)] [] trivial fun ac wd hS => ?_
 refine wp_seq ?_
 refine hS.condC (decide ((x13 : Int) < ((l.length : Nat) : Int))) (fun hb1o hb1 => ?_) (fun hb1o hb1 => ?_)
 ·
  refine wp_skip ?_
  refine pop_then ?_
  refine wp_seq ?_
  refine wp_block ?_
  refine hS.regS [0, 0] [0, 1, 12, 13] fun _ => seg [(5, vi x13)] [(0, none), (1, none)] [] trivial fun ac wd hS => ?_
  obtain rfl : ao1 = some ⟨g1, o1, none⟩ := Or.resolve_left hv1 (by omega)
  obtain rfl : ao2 = some ⟨g2, o2, none⟩ := Or.resolve_left hv2 (by omega)
  refine St.ordBeginS [(0, 1), (1, 1), (2, 1), (3, 1), (4, 1), (5, 1), (6, 1), (7, 1), (8, 0)] [(g1, .fn o1 (o1 + l.length * 2) (itV (gtD l) o1)), (g2, .fn o2 (o2 + l.length * 2) (itV (gtD l) o2))] [0, 1] hS fun wd hS => ?_
  have hap := hS.mem.pairs (Hf := [(g1, .fn o1 (o1 + l.length * 2) (itV (gtD l) o1)), (g2, .fn o2 (o2 + l.length * 2) (itV (gtD l) o2))]) (l := [0, 1])
  refine St.ordF [0, 0, 20, fx 0 (.agg #[.string (((gtD l) (Int.toNat x13)).1), vu (((gtD l) (Int.toNat x13)).2)]), 0, 0, 20, fx 100 (.agg #[.string (((gtD l) (Int.toNat x13)).1), vu (((gtD l) (Int.toNat x13)).2)])] [0, 1, 2, 3, 4, 5, 6, 7] [0, 1, 12, 13] (rest := [(8, 0)]) hS hap <| segF [(19, .agg #[.string (((gtD l) (Int.toNat x13)).1), vu (((gtD l) (Int.toNat x13)).2)]), (23, .agg #[.string (((gtD l) (Int.toNat x13)).1), vu (((gtD l) (Int.toNat x13)).2)])] [.p ((.agg #[((itV (gtD l) o2) (o2 + Int.toNat x13 * 2)), ((itV (gtD l) o2) (o2 + Int.toNat x13 * 2 + 1))] : Value) = .agg #[.string (((gtD l) (Int.toNat x13)).1), vu (((gtD l) (Int.toNat x13)).2)]), .e g2, .p (o2 ≤ o2 + Int.toNat x13 * 2 + 1 ∧ o2 + Int.toNat x13 * 2 + 1 < (o2 + l.length * 2)), .e g2, .p (o2 ≤ o2 + Int.toNat x13 * 2 ∧ o2 + Int.toNat x13 * 2 < (o2 + l.length * 2)), .p ((0 : Int) ≤ x13 ∧ (x13 : Int) < ((l.length : Nat) : Int)), .p ((.agg #[((itV (gtD l) o1) (o1 + Int.toNat x13 * 2)), ((itV (gtD l) o1) (o1 + Int.toNat x13 * 2 + 1))] : Value) = .agg #[.string (((gtD l) (Int.toNat x13)).1), vu (((gtD l) (Int.toNat x13)).2)]), .e g1, .p (o1 ≤ o1 + Int.toNat x13 * 2 + 1 ∧ o1 + Int.toNat x13 * 2 + 1 < (o1 + l.length * 2)), .e g1, .p (o1 ≤ o1 + Int.toNat x13 * 2 ∧ o1 + Int.toNat x13 * 2 < (o1 + l.length * 2)), .p ((0 : Int) ≤ x13 ∧ (x13 : Int) < ((l.length : Nat) : Int))] ⟨(agg2 (itV_0 (gtD l) o2 (Int.toNat x13)) (itV_1 (gtD l) o2 (Int.toNat x13))), (by omega), (by omega), (by omega), (agg2 (itV_0 (gtD l) o1 (Int.toNat x13)) (itV_1 (gtD l) o1 (Int.toNat x13))), (by omega), (by omega), (by omega), trivial⟩ fun ac hS => ?_
  refine Runs1.ord (i := 8) ?_
  refine St.binS hS .neq (.tmp 19) (.tmp 23) 49 49 rfl rfl (by decide) (xs := #[.string (((gtD l) (Int.toNat x13)).1), vu (((gtD l) (Int.toNat x13)).2)]) (ys := #[.string (((gtD l) (Int.toNat x13)).1), vu (((gtD l) (Int.toNat x13)).2)]) (r := vb false) (fun w => run_neSame w (by as_aux_lemma => kernel_rfl) (by as_aux_lemma => kernel_rfl) (by as_aux_lemma => kernel_rfl)) (by as_aux_lemma => kernel_rfl) fun ac hS => ?_
  refine hS.ordV (l := [0, 1]) ?_
  refine ord_nil ?_
  refine hS.condF ?_
  refine wp_skip ?_
  refine pop_block ?_
  refine pop_then ?_
  refine hS.regC [20, 0] [0, 1, 12] fun _ => seg [(13, vi (x13 + 1))] [(0, none), (1, none)] [.p (fit .i64 (x13 + 1))] ⟨fit_i64 (by omega), trivial⟩ fun ac wd hS => ?_
  exact pop_then (hS.next (x13 + 1) ⟨(by first | omega | assumption | (simp; done) | (simp; omega)), trivial⟩ (by dsimp only; omega))
 ·
  refine wp_exit ?_
  refine pop_then_exit ?_
  refine pop_then_exit ?_
  refine pop_block_hit ?_
  refine pop_then ?_
  refine hS.regS [0] [] fun _ => seg [(4, vb true)] [] [] trivial fun ac wd hS => ?_
  refine wp_ret ?_
  refine St.retC 0 hS (vb true) [] trivial fun hw => ?_
  refine ⟨retd rfl, hw.fr0⟩

set_option maxRecDepth 100000 in
set_option maxHeartbeats 1000000 in
theorem law22_open (n : Int) (w : World) (hn : 0 ≤ n ∧ n ≤ 4056) :
    Calls Tryz.prog 6 #[vi n] w fun e w' => ∃ (b' : Nat) (F' : Nat → Prop), e = .returned (.tuple #[pt b' 0, .agg #[pt b' 0, vi 40, vi n], vb true]) ∧ (arR b' F' (comM (AM.new 1) 0 1)).R w' ∧ Fr w w' no F' := by
 refine enter (args := [vi n]) (D := no) (A := []) Tryz.func6 rfl 27 rfl [] (WS.startL trivial) fun ac hS => ?_
 refine hS.regS [0, 0, 0] [0] fun ν1 => seg [(3, pt (ν1 0) 0)] [(0, some ((ν1 0), .cells [pnil, vi 0, vi 0] 30))] [] trivial fun ac wd hS => ?_
 refine wp_region_seq ?_
 refine hS.callC 23 #[vi 1] (ar_New 1 _  ) ?_
 rintro _ wd ⟨b'1, F2, rfl, hN, hF⟩
 refine ⟨pt b'1 0, rfl, ?_⟩
 replace hS := (hS.to (hS.mem.newA hN hF)).put (d := 9) (v := pt b'1 0) (by decide)
 clear hF
 refine hS.opsC 1 [0] [0, 3] fun _ => seg [(5, pt b'1 0)] [(0, none)] [] trivial fun ac wd hS => ?_
 refine list_nil_seq ?_
 refine wp_region_seq ?_
 refine hS.opsC 1 [0] [0, 3, 5] fun _ => seg [(10, pt b'1 0)] [(0, none)] [] trivial fun ac wd hS => ?_
 refine hS.callC 24 #[pt b'1 0, vi 0, vi 1] (ar_Commit b'1 F2 (AM.new 1) 0 1 _ (hS.mem.res 0) ) ?_
 rintro _ wd ⟨F3, rfl, hA, hF⟩
 refine ⟨vi (comE (AM.new 1) 0 1), rfl, ?_⟩
 replace hS := (hS.to (hS.mem.stepA 0 rfl hA hF)).put (d := 11) (v := vi (comE (AM.new 1) 0 1)) (by decide)
 clear hF
 refine hS.opsC 1 [0] [0, 3, 5] fun _ => seg [(6, vi (comE (AM.new 1) 0 1))] [(0, none)] [] trivial fun ac wd hS => ?_
 refine list_nil_seq ?_
 refine wp_region_seq ?_
 refine hS.opsC 2 [0, 0] [3, 5, 6] fun _ => seg [(13, pt b'1 0), (14, vi n)] [(0, none)] [] trivial fun ac wd hS => ?_
 refine hS.call0 18 #[pt b'1 0, vi 40, vi n] 15 (vw_Of b'1 F3 (comM (AM.new 1) 0 1) 40 n _ (hS.mem.res 0) (by exact page_thr1 (by omega))) fun ac wd hS => ?_
 refine hS.opsC 6 [0, 0, 0, 0, 100, 0] [3, 5, 6] fun ν6 => seg [(7, pt (ν6 0) 0), (8, vi 0)] [(0, none), (1, some ((ν6 0), .cells [pt b'1 0, vi 40, vi n] 28))] [.e (ν6 0), .e (ν6 0), .e (ν6 0)] trivial fun ac wd hS => ?_
 refine list_nil_seq ?_
 refine wp_region_seq ?_
 refine hS.opsC 2 [0, 100] [3, 6, 8] fun _ => seg [(18, pt b'1 0), (19, .agg #[pt b'1 0, vi 40, vi n])] [(0, none)] [.e (ν6 0), .e (ν6 0), .e (ν6 0)] trivial fun ac wd hS => ?_
 refine hS.call0 20 #[.agg #[pt b'1 0, vi 40, vi n]] 20 (d_Open b'1 40 n _  ) fun ac wd hS => ?_
 refine hS.opsC 9 [0, 0, 0, 3, 3, 80, 0, 0, 0] [3] fun _ => seg [(2, pt b'1 0), (4, vb ((((comE (AM.new 1) 0 1) : Int) == 0) && true))] [(0, some ((ν1 0), .cells [pt b'1 0, vi 40, vi n] 30))] [.e (ν1 0), .e (ν1 0), .e (ν1 0)] trivial fun ac wd hS => ?_
 refine list_nil_seq ?_
 refine wp_ret ?_
 refine St.retC 0 hS (.tuple #[pt b'1 0, .agg #[pt b'1 0, vi 40, vi n], vb ((((comE (AM.new 1) 0 1) : Int) == 0) && true)]) [.e (ν1 0), .e (ν1 0), .e (ν1 0)] trivial fun hw => ?_
 refine ⟨b'1, F3, retd (tuple3 rfl rfl (vbool ?_)), (hw.res 0), hw.frA⟩
 all_goals (first | rfl | decide +kernel)

set_option maxRecDepth 100000 in
set_option maxHeartbeats 1000000 in
theorem law22_awake (w : World) (hh0 : HE.holds w 0 (.fn 0 64 dbT)) :
    Calls Tryz.prog 4 #[] w fun e w' => e = .returned (vb true) ∧ Fr w w' no no := by
 have hR0 : DtR (comM (AM.new 1) 0 1) 40 96 [] := DtR.zero (by decide) (by decide) (page_thr1 (by decide)) (comM_zero (fun _ => rfl) 0 1)
 have hR1 := hR0.put (items := [((⟨#[97]⟩ : ByteArray), 1)]) (fun x_ hx_ => by obtain rfl := List.mem_singleton.1 hx_; exact ⟨by decide, by decide⟩)
 have hR2 := hR1.put (items := [((⟨#[98]⟩ : ByteArray), 2)]) (fun x_ hx_ => by obtain rfl := List.mem_singleton.1 hx_; exact ⟨by decide, by decide⟩)
 have hR3 := hR2.put (items := [((⟨#[97]⟩ : ByteArray), 3)]) (fun x_ hx_ => by obtain rfl := List.mem_singleton.1 hx_; exact ⟨by decide, by decide⟩)
 have e3 : (dPutL (96 / 32) (dPutL (96 / 32) (dPutL (96 / 32) ([] : List It) [((⟨#[97]⟩ : ByteArray), 1)]) [((⟨#[98]⟩ : ByteArray), 2)]) [((⟨#[97]⟩ : ByteArray), 3)]) = [((⟨#[97]⟩ : ByteArray), 3), ((⟨#[98]⟩ : ByteArray), 2)] := by decide +kernel
 have hR4 := hR3
 rw [show dPutL (96 / 32) (dPutL (96 / 32) (dPutL (96 / 32) ([] : List It) [((⟨#[97]⟩ : ByteArray), 1)]) [((⟨#[98]⟩ : ByteArray), 2)]) [((⟨#[97]⟩ : ByteArray), 3)] = [((⟨#[97]⟩ : ByteArray), 3), ((⟨#[98]⟩ : ByteArray), 2)] from e3] at hR4
 refine enter (args := []) (D := no) (A := []) Tryz.func4 rfl 37 rfl [(0, .fn 0 64 dbT)] (WS.startL ⟨⟨rfl, hh0⟩, trivial⟩) fun ac hS => ?_
 refine hS.regS [0] [] fun _ => seg [] [(0, none)] [] trivial fun ac wd hS => ?_
 refine wp_region_seq ?_
 refine hS.callC 6 #[vi 96] (law22_open 96 _  (by decide)) ?_
 rintro _ wd ⟨b'1, F2, rfl, hN, hF⟩
 refine ⟨.tuple #[pt b'1 0, .agg #[pt b'1 0, vi 40, vi 96], vb true], rfl, ?_⟩
 replace hS := (hS.to (hS.mem.newA hN hF)).put (d := 5) (v := .tuple #[pt b'1 0, .agg #[pt b'1 0, vi 40, vi 96], vb true]) (by decide)
 clear hF
 refine hS.opsC 8 [0, 0, 0, 0, 0, 0, 100, 0] [] fun ν2 => seg [(2, pt (ν2 0) 0), (3, vb true)] [(0, none), (1, some ((ν2 0), .cells [pt b'1 0, vi 40, vi 96] 30))] [.e (ν2 0), .e (ν2 0), .e (ν2 0)] trivial fun ac wd hS => ?_
 refine list_nil_seq ?_
 refine wp_region_seq ?_
 refine hS.opsC 2 [0, 0] [2, 3] fun _ => seg [(10, vb true)] [(0, none), (1, none)] [] trivial fun ac wd hS => ?_
 refine hS.opsC 1 [101] [2, 3, 10] fun _ => seg [(11, .agg #[pt b'1 0, vi 40, vi 96])] [(0, none), (1, none)] [.t true, .e (ν2 0), .e (ν2 0), .e (ν2 0)] trivial fun ac wd hS => ?_
 refine hS.callG true 12 #[.agg #[pt b'1 0, vi 40, vi 96], .string (⟨#[97]⟩ : ByteArray), vu 1] (d_Set b'1 F2 (comM (AM.new 1) 0 1) 40 96 (⟨#[97]⟩ : ByteArray) 1 ([] : List It) _ (hS.mem.res 0) (hS.mem.get 0 0 (.fn 0 64 dbT)) (hS.mem.nF (g := 0) (r := arR b'1 F2 (comM (AM.new 1) 0 1)) 0 0) (by first | assumption | omega | (simp_all; done) | (simp_all; omega)) (by first | exact hR0 | exact hR1 | exact hR2)) ?_
 rintro _ wd ⟨F3, rfl, hA, hF⟩
 refine ⟨vi ((dPutT (96 / 32) ([] : List It) [((⟨#[97]⟩ : ByteArray), 1)]).2), rfl, ?_⟩
 replace hS := (hS.to (hS.mem.stepA 0 rfl hA hF)).put (d := 12) (v := vi ((dPutT (96 / 32) ([] : List It) [((⟨#[97]⟩ : ByteArray), 1)]).2)) (by decide)
 clear hF
 replace hS := hS.fix 12 (vi 0) (show (vi ((dPutT (96 / 32) ([] : List It) [((⟨#[97]⟩ : ByteArray), 1)]).2) : Value) = vi 0 from (vint (by decide +kernel)))
 refine hS.opsC 3 [1, 70, 0] [2, 3] fun _ => seg [(15, vb true)] [(0, none), (1, none)] [.t true, .t true] trivial fun ac wd hS => ?_
 refine hS.opsC 1 [101] [2, 3, 15] fun _ => seg [(16, .agg #[pt b'1 0, vi 40, vi 96])] [(0, none), (1, none)] [.t true, .e (ν2 0), .e (ν2 0), .e (ν2 0)] trivial fun ac wd hS => ?_
 refine hS.callG true 12 #[.agg #[pt b'1 0, vi 40, vi 96], .string (⟨#[98]⟩ : ByteArray), vu 2] (d_Set b'1 F3 (dPutM (comM (AM.new 1) 0 1) 40 96 ([] : List It) [((⟨#[97]⟩ : ByteArray), 1)]) 40 96 (⟨#[98]⟩ : ByteArray) 2 (dPutL (96 / 32) ([] : List It) [((⟨#[97]⟩ : ByteArray), 1)]) _ (hS.mem.res 0) (hS.mem.get 0 0 (.fn 0 64 dbT)) (hS.mem.nF (g := 0) (r := arR b'1 F3 (dPutM (comM (AM.new 1) 0 1) 40 96 ([] : List It) [((⟨#[97]⟩ : ByteArray), 1)])) 0 0) (by first | assumption | omega | (simp_all; done) | (simp_all; omega)) (by first | exact hR0 | exact hR1 | exact hR2)) ?_
 rintro _ wd ⟨F4, rfl, hA, hF⟩
 refine ⟨vi ((dPutT (96 / 32) (dPutL (96 / 32) ([] : List It) [((⟨#[97]⟩ : ByteArray), 1)]) [((⟨#[98]⟩ : ByteArray), 2)]).2), rfl, ?_⟩
 replace hS := (hS.to (hS.mem.stepA 0 rfl hA hF)).put (d := 17) (v := vi ((dPutT (96 / 32) (dPutL (96 / 32) ([] : List It) [((⟨#[97]⟩ : ByteArray), 1)]) [((⟨#[98]⟩ : ByteArray), 2)]).2)) (by decide)
 clear hF
 replace hS := hS.fix 17 (vi 0) (show (vi ((dPutT (96 / 32) (dPutL (96 / 32) ([] : List It) [((⟨#[97]⟩ : ByteArray), 1)]) [((⟨#[98]⟩ : ByteArray), 2)]).2) : Value) = vi 0 from (vint (by decide +kernel)))
 refine hS.opsC 3 [1, 70, 0] [2, 3] fun _ => seg [(20, vb true)] [(0, none), (1, none)] [.t true, .t true] trivial fun ac wd hS => ?_
 refine hS.opsC 1 [101] [2, 3, 20] fun _ => seg [(21, .agg #[pt b'1 0, vi 40, vi 96])] [(0, none), (1, none)] [.t true, .e (ν2 0), .e (ν2 0), .e (ν2 0)] trivial fun ac wd hS => ?_
 refine hS.callG true 12 #[.agg #[pt b'1 0, vi 40, vi 96], .string (⟨#[97]⟩ : ByteArray), vu 3] (d_Set b'1 F4 (dPutM (dPutM (comM (AM.new 1) 0 1) 40 96 ([] : List It) [((⟨#[97]⟩ : ByteArray), 1)]) 40 96 (dPutL (96 / 32) ([] : List It) [((⟨#[97]⟩ : ByteArray), 1)]) [((⟨#[98]⟩ : ByteArray), 2)]) 40 96 (⟨#[97]⟩ : ByteArray) 3 (dPutL (96 / 32) (dPutL (96 / 32) ([] : List It) [((⟨#[97]⟩ : ByteArray), 1)]) [((⟨#[98]⟩ : ByteArray), 2)]) _ (hS.mem.res 0) (hS.mem.get 0 0 (.fn 0 64 dbT)) (hS.mem.nF (g := 0) (r := arR b'1 F4 (dPutM (dPutM (comM (AM.new 1) 0 1) 40 96 ([] : List It) [((⟨#[97]⟩ : ByteArray), 1)]) 40 96 (dPutL (96 / 32) ([] : List It) [((⟨#[97]⟩ : ByteArray), 1)]) [((⟨#[98]⟩ : ByteArray), 2)])) 0 0) (by first | assumption | omega | (simp_all; done) | (simp_all; omega)) (by first | exact hR0 | exact hR1 | exact hR2)) ?_
 rintro _ wd ⟨F5, rfl, hA, hF⟩
 refine ⟨vi ((dPutT (96 / 32) (dPutL (96 / 32) (dPutL (96 / 32) ([] : List It) [((⟨#[97]⟩ : ByteArray), 1)]) [((⟨#[98]⟩ : ByteArray), 2)]) [((⟨#[97]⟩ : ByteArray), 3)]).2), rfl, ?_⟩
 replace hS := (hS.to (hS.mem.stepA 0 rfl hA hF)).put (d := 22) (v := vi ((dPutT (96 / 32) (dPutL (96 / 32) (dPutL (96 / 32) ([] : List It) [((⟨#[97]⟩ : ByteArray), 1)]) [((⟨#[98]⟩ : ByteArray), 2)]) [((⟨#[97]⟩ : ByteArray), 3)]).2)) (by decide)
 clear hF
 replace hS := hS.fix 22 (vi 0) (show (vi ((dPutT (96 / 32) (dPutL (96 / 32) (dPutL (96 / 32) ([] : List It) [((⟨#[97]⟩ : ByteArray), 1)]) [((⟨#[98]⟩ : ByteArray), 2)]) [((⟨#[97]⟩ : ByteArray), 3)]).2) : Value) = vi 0 from (vint (by decide +kernel)))
 refine hS.opsC 3 [1, 70, 0] [2] fun _ => seg [(3, vb true)] [(0, none), (1, none)] [.t true, .t true] trivial fun ac wd hS => ?_
 refine list_nil_seq ?_
 refine wp_region_seq ?_
 refine hS.call0 21 #[] 25 (law05_Awake  _ (hS.mem.get 0 0 (.fn 0 64 dbT)) ) fun ac wd hS => ?_
 refine hS.opsC 4 [0, 1, 70, 0] [2] fun _ => seg [(29, vb true)] [(0, none), (1, none)] [.t true, .t true] trivial fun ac wd hS => ?_
 refine hS.opsC 1 [101] [29] fun _ => seg [(30, .agg #[pt b'1 0, vi 40, vi 96])] [(0, none)] [.t true, .e (ν2 0), .e (ν2 0), .e (ν2 0)] trivial fun ac wd hS => ?_
 refine hS.callG true 17 #[.agg #[pt b'1 0, vi 40, vi 96]] (d_All b'1 F5 (dPutM (dPutM (dPutM (comM (AM.new 1) 0 1) 40 96 ([] : List It) [((⟨#[97]⟩ : ByteArray), 1)]) 40 96 (dPutL (96 / 32) ([] : List It) [((⟨#[97]⟩ : ByteArray), 1)]) [((⟨#[98]⟩ : ByteArray), 2)]) 40 96 (dPutL (96 / 32) (dPutL (96 / 32) ([] : List It) [((⟨#[97]⟩ : ByteArray), 1)]) [((⟨#[98]⟩ : ByteArray), 2)]) [((⟨#[97]⟩ : ByteArray), 3)]) 40 96 ([((⟨#[97]⟩ : ByteArray), 3), ((⟨#[98]⟩ : ByteArray), 2)]) _ (hS.mem.res 0) (hS.mem.get 0 0 (.fn 0 64 dbT)) (by first | assumption | omega | (simp_all; done) | (simp_all; omega)) (by exact hR4)) ?_
 rintro _ wd ⟨ao26, c27, g28, o29, rfl, hv210, hog0, hoh0, hF⟩
 have ho11 : g28 = 0 ∨ w.heap.size ≤ g28 := by have := hS.mem.fr.size; have : w.heap.size ≤ _ := this; omega
 refine ⟨.slice ao26 (([((⟨#[97]⟩ : ByteArray), 3), ((⟨#[98]⟩ : ByteArray), 2)]).length) c27, rfl, ?_⟩
 replace hS := (hS.to (hS.mem.outs hF [(g28, .fn o29 (o29 + ([((⟨#[97]⟩ : ByteArray), 3), ((⟨#[98]⟩ : ByteArray), 2)]).length * 2) (itV (gtD ([((⟨#[97]⟩ : ByteArray), 3), ((⟨#[98]⟩ : ByteArray), 2)])) o29))] ⟨⟨rfl, hoh0, (fun q_ => q_.elim (fun e => .inl ⟨0, .fn 0 64 dbT, by rw [e]; as_aux_lemma => kernel_rfl, rfl⟩) (fun q_ => .inr q_)) hog0⟩, trivial⟩)).put (d := 31) (v := .slice ao26 (([((⟨#[97]⟩ : ByteArray), 3), ((⟨#[98]⟩ : ByteArray), 2)]).length) c27) (by decide)
 clear hF
 refine hS.opsC 3 [1, 1, 1] [29, 31] fun ν12 => seg [(34, sc (ν12 0) 0 2 2)] [(0, none), (1, none), (2, some ((ν12 0), .cells [.string (⟨#[97]⟩ : ByteArray), vu 3, .string (⟨#[98]⟩ : ByteArray), vu 2] 39))] [.t true, .t true, .t true] trivial fun ac wd hS => ?_
 refine hS.callG true 22 #[.slice ao26 (([((⟨#[97]⟩ : ByteArray), 3), ((⟨#[98]⟩ : ByteArray), 2)]).length) c27, sc (ν12 0) 0 2 2] (eq_items ao26 c27 g28 o29 ([((⟨#[97]⟩ : ByteArray), 3), ((⟨#[98]⟩ : ByteArray), 2)]) (some ⟨(ν12 0), 0, none⟩) 2 (ν12 0) 0 _ (hS.mem.get 1 g28 (.fn o29 (o29 + ([((⟨#[97]⟩ : ByteArray), 3), ((⟨#[98]⟩ : ByteArray), 2)]).length * 2) (itV (gtD ([((⟨#[97]⟩ : ByteArray), 3), ((⟨#[98]⟩ : ByteArray), 2)])) o29))) (HE.of_cells (hS.mem.get 2 (ν12 0) (.cells [.string (⟨#[97]⟩ : ByteArray), vu 3, .string (⟨#[98]⟩ : ByteArray), vu 2] 39)) (by intro o_ ho_; (rcases o_ with _ | _ | _ | _ | o_; rfl; rfl; rfl; rfl; exact absurd ho_ (by simp)))) hv210 (.inr rfl) (by decide)) ?_
 rintro _ wd ⟨rfl, hF⟩
 refine ⟨vb true, rfl, ?_⟩
 replace hS := (hS.to (hS.mem.keep0 hF)).put (d := 35) (v := vb true) (by decide)
 clear hF
 refine hS.opsC 2 [70, 0] [] fun _ => seg [(0, vb true)] [(0, none)] [.t true] trivial fun ac wd hS => ?_
 refine list_nil_seq ?_
 refine wp_ret ?_
 refine St.retC 0 hS (vb true) [] trivial fun hw => ?_
 refine ⟨retd rfl, hw.fr0⟩

set_option maxRecDepth 100000 in
set_option maxHeartbeats 1000000 in
theorem law22_Light (ao7 : Option Addr) (c7 : Nat) (g7 : Nat) (o7 : Nat) (l : List (AcD)) (w : World) (hh0 : HE.holds w 0 (.fn 0 64 dbT)) (hh1 : HE.holds w g7 (.fn o7 (o7 + l.length * 2) (aDV (gtD l) o7))) (hv7 : (l.length = 0 ∨ ao7 = some ⟨g7, o7, none⟩)) (hAl : ∀ i, i < l.length → rg_aDV w (gtD l i)) :
    Calls Tryz.prog 5 #[.slice ao7 l.length c7] w fun e w' => ∃ (r2 : Bool), e = .returned (vb r2) ∧ (r2 = true → l.length ≤ 60 ∧ ∀ i, i < l.length → (gtD l i).2.2.2.2.2.length ≤ 12) ∧ Fr w w' no no := by
 refine enter (args := [.slice ao7 l.length c7]) (D := no) (A := []) Tryz.func5 rfl 35 rfl [(0, .fn 0 64 dbT), (g7, .fn o7 (o7 + l.length * 2) (aDV (gtD l) o7))] (WS.startL ⟨⟨rfl, hh0⟩, ⟨rfl, hh1⟩, trivial⟩) fun ac hS => ?_
 refine hS.regS [0] [0] fun _ => seg [] [(0, none), (1, none)] [] trivial fun ac wd hS => ?_
 refine wp_seq ?_
 refine hS.regS [0, 0, 0] [] fun _ => seg [(7, .slice ao7 l.length c7), (8, vi ((l.length : Nat) : Int)), (9, vi 0)] [(0, none), (1, none)] [] trivial fun ac wd hS => ?_
 refine wp_block ?_
 refine St.loopC (σ := Int) (fun (x9 : Int) => ⟨[(7, [], .slice ao7 l.length c7), (8, [], vi ((l.length : Nat) : Int)), (9, [], vi x9)], [(0, .fn 0 64 dbT), (g7, .fn o7 (o7 + l.length * 2) (aDV (gtD l) o7))], [], (0 ≤ x9 ∧ x9 ≤ ((l.length : Nat) : Int)) ∧ (x9 ≤ 60) ∧ (∀ k : Nat, (k : Int) < x9 → k < l.length → (gtD l k).2.2.2.2.2.length ≤ 12) ∧ True, l.length - Int.toNat x9⟩) 0 ⟨(by omega), (by omega), (by intro k_ hk_; omega), trivial⟩ hS ?_
 clear hS
 rintro x9 ⟨i0, i2, i3, -⟩ ac wd hS
 replace i0 : 0 ≤ x9 ∧ x9 ≤ ((l.length : Nat) : Int) := i0
 replace i2 : x9 ≤ 60 := i2
 replace i3 : ∀ k : Nat, (k : Int) < x9 → k < l.length → (gtD l k).2.2.2.2.2.length ≤ 12 := i3
 refine hS.regS [0] [7, 8, 9] fun _ => seg [(10, vb (decide ((x9 : Int) < ((l.length : Nat) : Int))))] [(0, none), (1, none)] [] trivial fun ac wd hS => ?_
 refine wp_seq ?_
 refine hS.condC (decide ((x9 : Int) < ((l.length : Nat) : Int))) (fun hb1o hb1 => ?_) (fun hb1o hb1 => ?_)
 ·
  refine wp_skip ?_
  refine pop_then ?_
  refine wp_seq ?_
  refine wp_block ?_
  obtain rfl : ao7 = some ⟨g7, o7, none⟩ := Or.resolve_left hv7 (by omega)
  refine hS.regS [0, 20, fx 100 (.agg #[v8 (((gtD l) (Int.toNat x9)).1), .slice (((gtD l) (Int.toNat x9)).2.1) (((gtD l) (Int.toNat x9)).2.2.2.2.2.length) (((gtD l) (Int.toNat x9)).2.2.1)]), 0, 0, 200] [7, 8, 9] fun ν4 => seg [(3, vi x9), (4, pt (ν4 0) 0)] [(0, none), (1, none), (2, some ((ν4 0), .cells [v8 (((gtD l) (Int.toNat x9)).1), .slice (((gtD l) (Int.toNat x9)).2.1) (((gtD l) (Int.toNat x9)).2.2.2.2.2.length) (((gtD l) (Int.toNat x9)).2.2.1)] 36))] [.e (ν4 0), .e (ν4 0), .p ((.agg #[((aDV (gtD l) o7) (o7 + Int.toNat x9 * 2)), ((aDV (gtD l) o7) (o7 + Int.toNat x9 * 2 + 1))] : Value) = .agg #[v8 (((gtD l) (Int.toNat x9)).1), .slice (((gtD l) (Int.toNat x9)).2.1) (((gtD l) (Int.toNat x9)).2.2.2.2.2.length) (((gtD l) (Int.toNat x9)).2.2.1)]), .e g7, .p (o7 ≤ o7 + Int.toNat x9 * 2 + 1 ∧ o7 + Int.toNat x9 * 2 + 1 < (o7 + l.length * 2)), .e g7, .p (o7 ≤ o7 + Int.toNat x9 * 2 ∧ o7 + Int.toNat x9 * 2 < (o7 + l.length * 2)), .p ((0 : Int) ≤ x9 ∧ (x9 : Int) < ((l.length : Nat) : Int))] ⟨(agg2 (aDV_0 (gtD l) o7 (Int.toNat x9)) (aDV_1 (gtD l) o7 (Int.toNat x9))), (by omega), (by omega), (by omega), trivial⟩ fun ac wd hS => ?_
  refine wp_seq ?_
  obtain ⟨⟨yd, ya, yc, yg, yo, yL⟩, hy⟩ : ∃ q_ : AcD, q_ = gtD l (Int.toNat x9) := ⟨_, rfl⟩
  have hac := hAl _ (show Int.toNat x9 < l.length by omega)
  rw [← hy] at hac
  obtain ⟨hyd, hyv, hyh, hyi⟩ : (0 ≤ yd ∧ yd ≤ 255) ∧ (yL.length = 0 ∨ ya = some ⟨yg, yo, none⟩) ∧ HE.holds w yg (.fn yo (yo + yL.length * 2) (itV (gtD yL) yo)) ∧ ∀ i, i < yL.length → 0 ≤ (gtD yL i).2 ∧ (gtD yL i).2 ≤ 18446744073709551615 := hac
  replace hS := hS.to (hS.mem.tell 2 (b := (ν4 0)) (x := (.cells [v8 (((gtD l) (Int.toNat x9)).1), .slice (((gtD l) (Int.toNat x9)).2.1) (((gtD l) (Int.toNat x9)).2.2.2.2.2.length) (((gtD l) (Int.toNat x9)).2.2.1)] 36)) (.cells [v8 yd, .slice ya yL.length yc] 36) (hh := fun h_ => by rw [← hy] at h_; exact h_))
  replace hS := hS.to (hS.mem.acq (g := yg) (lo := yo) (hi := yo + yL.length * 2) (f := itV (gtD yL) yo) hyh (fun h_ => h_))
  refine hS.regS [0, 0, 0, 3, 203, 3, 3, 80] [4, 7, 8, 9] fun _ => seg [(21, vb ((decide ((60 : Int) ≤ x9)) || (decide ((12 : Int) < ((yL.length : Nat) : Int)))))] [(0, none), (1, none), (2, none), (3, none)] [.p ((((decide ((60 : Int) ≤ x9)) = false) ∧ True) → AllP [((ν4 0) : Nat) = (ν4 0)])] ⟨(fun ⟨hc0, _⟩ => by replace hc0 := nrm hc0; exact ⟨rfl, trivial⟩), trivial⟩ fun ac wd hS => ?_
  refine hS.condC ((decide ((60 : Int) ≤ x9)) || (decide ((12 : Int) < ((yL.length : Nat) : Int)))) (fun hb2o hb2 => ?_) (fun hb2o hb2 => ?_)
  ·
   refine hS.regS [0] [] fun _ => seg [(2, vb false)] [(0, none)] [] trivial fun ac wd hS => ?_
   refine wp_ret ?_
   refine pop_then_ret ?_
   refine pop_block_ret ?_
   refine pop_then_ret ?_
   refine pop_then_ret ?_
   refine pop_block_ret ?_
   refine pop_then_ret ?_
   refine St.retC 0 hS (vb false) [] trivial fun hw => ?_
   refine ⟨false, retd rfl, ?_, hw.fr0⟩
   all_goals (first | rfl | (intro h_; exact absurd h_ (by decide)) | exact fun _ => ⟨by omega, fun i_ hi_ => i3 i_ (by omega) hi_⟩)
  ·
   refine wp_skip ?_
   refine pop_then ?_
   refine hS.regS [0, 200, 0, 0] [7, 8, 9] fun _ => seg [(23, .slice ya yL.length yc), (24, vi ((yL.length : Nat) : Int)), (25, vi 0)] [(0, none), (1, none), (3, none)] [.e (ν4 0)] trivial fun ac wd hS => ?_
   refine wp_block ?_
   refine St.loopC (σ := Int) (fun (x25 : Int) => ⟨[(7, [], sc g7 o7 l.length c7), (8, [], vi ((l.length : Nat) : Int)), (9, [], vi x9), (23, [], .slice ya yL.length yc), (24, [], vi ((yL.length : Nat) : Int)), (25, [], vi x25)], [(0, .fn 0 64 dbT), (g7, .fn o7 (o7 + l.length * 2) (aDV (gtD l) o7)), (yg, .fn yo (yo + yL.length * 2) (itV (gtD yL) yo))], [], (0 ≤ x25 ∧ x25 ≤ ((yL.length : Nat) : Int)) ∧ True, yL.length - Int.toNat x25⟩) 0 ⟨(by omega), trivial⟩ hS ?_
   clear hS
   rintro x25 ⟨j0, -⟩ ac wd hS
   replace j0 : 0 ≤ x25 ∧ x25 ≤ ((yL.length : Nat) : Int) := j0
   refine hS.regS [0] [7, 8, 9, 23, 24, 25] fun _ => seg [(26, vb (decide ((x25 : Int) < ((yL.length : Nat) : Int))))] [(0, none), (1, none), (2, none)] [] trivial fun ac wd hS => ?_
   refine wp_seq ?_
   refine hS.condC (decide ((x25 : Int) < ((yL.length : Nat) : Int))) (fun hb3o hb3 => ?_) (fun hb3o hb3 => ?_)
   ·
    refine wp_skip ?_
    refine pop_then ?_
    refine wp_seq ?_
    refine wp_block ?_
    obtain rfl : ya = some ⟨yg, yo, none⟩ := Or.resolve_left hyv (by omega)
    refine hS.regS [20, fx 200 (.agg #[.string (((gtD yL) (Int.toNat x25)).1), vu (((gtD yL) (Int.toNat x25)).2)]), 0, 300] [7, 8, 9, 23, 24, 25] fun ν9 => seg [(6, pt (ν9 0) 0)] [(0, none), (1, none), (2, none), (3, some ((ν9 0), .cells [.string (((gtD yL) (Int.toNat x25)).1), vu (((gtD yL) (Int.toNat x25)).2)] 39))] [.e (ν9 0), .e (ν9 0), .p ((.agg #[((itV (gtD yL) yo) (yo + Int.toNat x25 * 2)), ((itV (gtD yL) yo) (yo + Int.toNat x25 * 2 + 1))] : Value) = .agg #[.string (((gtD yL) (Int.toNat x25)).1), vu (((gtD yL) (Int.toNat x25)).2)]), .e yg, .p (yo ≤ yo + Int.toNat x25 * 2 + 1 ∧ yo + Int.toNat x25 * 2 + 1 < (yo + yL.length * 2)), .e yg, .p (yo ≤ yo + Int.toNat x25 * 2 ∧ yo + Int.toNat x25 * 2 < (yo + yL.length * 2)), .p ((0 : Int) ≤ x25 ∧ (x25 : Int) < ((yL.length : Nat) : Int))] ⟨(agg2 (itV_0 (gtD yL) yo (Int.toNat x25)) (itV_1 (gtD yL) yo (Int.toNat x25))), (by omega), (by omega), (by omega), trivial⟩ fun ac wd hS => ?_
    refine hS.regS [0, 300, 0, 0] [7, 8, 9, 23, 24, 25] fun _ => seg [(32, vb (decide ((40 : Int) < ((ByteArray.size (((gtD yL) (Int.toNat x25)).1) : Nat) : Int))))] [(0, none), (1, none), (2, none)] [.e (ν9 0)] trivial fun ac wd hS => ?_
    refine hS.condC (decide ((40 : Int) < ((ByteArray.size (((gtD yL) (Int.toNat x25)).1) : Nat) : Int))) (fun hb4o hb4 => ?_) (fun hb4o hb4 => ?_)
    ·
     refine hS.regS [0] [] fun _ => seg [(2, vb false)] [(0, none)] [] trivial fun ac wd hS => ?_
     refine wp_ret ?_
     refine pop_block_ret ?_
     refine pop_then_ret ?_
     refine pop_then_ret ?_
     refine pop_block_ret ?_
     refine pop_block_ret ?_
     refine pop_then_ret ?_
     refine pop_then_ret ?_
     refine pop_block_ret ?_
     refine pop_then_ret ?_
     refine St.retC 0 hS (vb false) [] trivial fun hw => ?_
     refine ⟨false, retd rfl, ?_, hw.fr0⟩
     all_goals (first | rfl | (intro h_; exact absurd h_ (by decide)) | exact fun _ => ⟨by omega, fun i_ hi_ => i3 i_ (by omega) hi_⟩)
    ·
     refine wp_skip ?_
     refine pop_block ?_
     refine pop_then ?_
     refine hS.regC [20, 0] [7, 8, 9, 23, 24] fun _ => seg [(25, vi (x25 + 1))] [(0, none), (1, none), (2, none)] [.p (fit .i64 (x25 + 1))] ⟨fit_i64 (by omega), trivial⟩ fun ac wd hS => ?_
     exact pop_then (hS.next (x25 + 1) ⟨(by first | omega | assumption | (simp; done) | (simp; omega)), trivial⟩ (by dsimp only; omega))
   ·
    refine wp_exit ?_
    refine pop_then_exit ?_
    refine pop_then_exit ?_
    refine pop_block_hit ?_
    refine pop_block ?_
    refine pop_then ?_
    refine hS.regC [20, 0] [7, 8] fun _ => seg [(9, vi (x9 + 1))] [(0, none), (1, none)] [.p (fit .i64 (x9 + 1))] ⟨fit_i64 (by omega), trivial⟩ fun ac wd hS => ?_
    exact pop_then (hS.next (x9 + 1) ⟨(by first | omega | assumption | (simp; done) | (simp; omega)), (by first | omega | assumption | (simp; done) | (simp; omega)), (by exact fun k_ h1_ h2_ => by rcases Int.lt_or_le (k_ : Int) x9 with h3 | h3; exact i3 k_ h3 h2_; rw [show k_ = Int.toNat x9 by omega, ← hy]; show yL.length ≤ 12; omega), trivial⟩ (by dsimp only; omega))
 ·
  refine wp_exit ?_
  refine pop_then_exit ?_
  refine pop_then_exit ?_
  refine pop_block_hit ?_
  refine pop_then ?_
  refine hS.regS [0] [] fun _ => seg [(2, vb true)] [(0, none)] [] trivial fun ac wd hS => ?_
  refine wp_ret ?_
  refine St.retC 0 hS (vb true) [] trivial fun hw => ?_
  refine ⟨true, retd rfl, ?_, hw.fr0⟩
  all_goals (first | rfl | (intro h_; exact absurd h_ (by decide)) | exact fun _ => ⟨by omega, fun i_ hi_ => i3 i_ (by omega) hi_⟩)

end Go.Proofs.YtnbkafnikpbmbaaGreatDoor.K
