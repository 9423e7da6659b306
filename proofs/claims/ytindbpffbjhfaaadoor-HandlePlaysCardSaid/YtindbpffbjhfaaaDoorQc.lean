/-
  Walks, printed by w2.py.
-/
import Derived.Test.YtindbpffbjhfaaaDoorQb
import Derived.Test.YtindbpffbjhfaaaDoorOz
import Derived.Test.YtindbpffbjhfaaaDoorProg
namespace Go.Proofs.YtindbpffbjhfaaaDoor.K
set_option linter.unusedVariables false
set_option linter.unusedSimpArgs false

set_option maxRecDepth 100000 in
set_option maxHeartbeats 1000000 in
theorem l17_name (ao1 : Option Addr) (c1 : Nat) (g1 : Nat) (o1 : Nat) (t : List (Int × Int)) (ad : Int) (an : Int) (aa : Int) (ah : Int) (ob : Bool) (w : World) (hh0 : HE.holds w 1 (.fn 0 64 dbT)) (hh1 : HE.holds w g1 (.fn o1 (o1 + t.length * 2) (slV (gtD t) o1))) (hv1 : (t.length = 0 ∨ ao1 = some ⟨g1, o1, none⟩)) (hok : OkT t) (han : -9223372036854775808 ≤ an ∧ an ≤ 9223372036854775807) :
    Calls Tryd.prog 81 #[.slice ao1 t.length c1, .agg #[v8 ad, vi an, vi aa, vu ah, vb ob]] w fun e w' => e = .returned (vu (rName t an ah ob)) ∧ Fr w w' no no := by
 have him : 0 ≤ imax 0 an := by unfold imax; split <;> omega
 refine enter (args := [.slice ao1 t.length c1, .agg #[v8 ad, vi an, vi aa, vu ah, vb ob]]) (D := no) (A := []) Tryd.func81 rfl 26 rfl [(1, .fn 0 64 dbT), (g1, .fn o1 (o1 + t.length * 2) (slV (gtD t) o1))] (WS.startL ⟨⟨rfl, hh0⟩, ⟨rfl, hh1⟩, trivial⟩) fun ac hS => ?_
 refine hS.regS [0, 0] [0] fun ν1 => seg [(3, pt (ν1 0) 0)] [(0, none), (1, none), (2, some ((ν1 0), .cells [v8 ad, vi an, vi aa, vu ah, vb ob] 164))] [] trivial fun ac wd hS => ?_
 refine wp_region_seq ?_
 refine hS.opsC 1 [0] [3] fun _ => seg [(6, .slice ao1 t.length c1)] [(0, none), (1, none), (2, none)] [] trivial fun ac wd hS => ?_
 refine hS.callC 158 #[.slice ao1 t.length c1] (r17_All ao1 c1 g1 o1 t _ (hS.mem.get 0 1 (.fn 0 64 dbT)) (hS.mem.get 1 g1 (.fn o1 (o1 + t.length * 2) (slV (gtD t) o1))) hv1 (by first | assumption | omega | (simp_all; done) | (simp_all; omega))) ?_
 rintro _ wd ⟨ao21, c22, g23, o24, rfl, hv25, hog0, hoh0, hF⟩
 have ho6 : g23 = 1 ∨ w.heap.size ≤ g23 := by have := hS.mem.fr.size; have : w.heap.size ≤ _ := this; omega
 refine ⟨.slice ao21 ((rAll t).length) c22, rfl, ?_⟩
 replace hS := (hS.to (hS.mem.outs hF [(g23, .fn o24 (o24 + (rAll t).length) (u1V (gtD (rAll t)) o24))] ⟨⟨rfl, hoh0, (fun q_ => q_.elim (fun e => .inl ⟨0, .fn 0 64 dbT, by rw [e]; as_aux_lemma => kernel_rfl, rfl⟩) (fun q_ => .inr q_)) hog0⟩, trivial⟩)).put (d := 7) (v := .slice ao21 ((rAll t).length) c22) (by decide)
 clear hF
 refine hS.opsC 1 [0] [3] fun _ => seg [(5, .slice ao21 ((rAll t).length) c22)] [(0, none), (2, none), (3, none)] [] trivial fun ac wd hS => ?_
 refine list_nil_seq ?_
 refine wp_seq ?_
 refine hS.regS [0, 100, 0, 3, 3, 3, 80] [3, 5] fun _ => seg [(14, vb (ob || (((((rAll t).length : Nat) : Int) : Int) == 0)))] [(0, none), (1, none), (2, none)] [.e (ν1 0)] trivial fun ac wd hS => ?_
 refine hS.condC (ob || (((((rAll t).length : Nat) : Int) : Int) == 0)) (fun hb7o hb7 => ?_) (fun hb7o hb7 => ?_)
 ·
  have hq := rName_1 (t := t) (n := an) (h := ah) (o := ob) hb7o
  refine hS.regS [0, 100, 0] [] fun _ => seg [(4, vu ah)] [(0, none)] [.e (ν1 0)] trivial fun ac wd hS => ?_
  refine wp_ret ?_
  refine pop_then_ret ?_
  refine St.retC 0 hS (vu ah) [] trivial fun hw => ?_
  refine ⟨retd (vint ?_), hw.fr0⟩
  all_goals (first | exact hq | rfl)
 ·
  have hq := rName_2 (t := t) (n := an) (h := ah) (o := ob) hb7o
  obtain ⟨hl0, hq⟩ := hq
  have hmd := Int.emod_lt_of_pos (imax 0 an) (show (0 : Int) < (((rAll t).length : Nat) : Int) by omega)
  have hmn := Int.emod_nonneg (imax 0 an) (show (((rAll t).length : Nat) : Int) ≠ 0 by omega)
  refine wp_skip ?_
  refine pop_then ?_
  obtain rfl : ao21 = some ⟨g23, o24, none⟩ := Or.resolve_left hv25 (by omega)
  refine hS.regS [0, 0, 100, 0, 0, 0, 20, 20, fx 200 (vu ((gtD (rAll t)) (Int.toNat ((imax 0 an) % (((rAll t).length : Nat) : Int))))), 0] [] fun _ => seg [(4, vu ((gtD (rAll t)) (Int.toNat ((imax 0 an) % (((rAll t).length : Nat) : Int)))))] [(0, none)] [.p ((((u1V (gtD (rAll t)) o24) (o24 + Int.toNat ((imax 0 an) % (((rAll t).length : Nat) : Int)) * 1)) : Value) = vu ((gtD (rAll t)) (Int.toNat ((imax 0 an) % (((rAll t).length : Nat) : Int))))), .e g23, .p (o24 ≤ o24 + Int.toNat ((imax 0 an) % (((rAll t).length : Nat) : Int)) * 1 ∧ o24 + Int.toNat ((imax 0 an) % (((rAll t).length : Nat) : Int)) * 1 < (o24 + (rAll t).length)), .p ((0 : Int) ≤ ((imax 0 an) % (((rAll t).length : Nat) : Int)) ∧ (((imax 0 an) % (((rAll t).length : Nat) : Int)) : Int) < (((rAll t).length : Nat) : Int)), .p (((((rAll t).length : Nat) : Int) : Int) ≠ 0 ∧ Int.tmod (imax 0 an) (((rAll t).length : Nat) : Int) = (imax 0 an) % (((rAll t).length : Nat) : Int)), .e (ν1 0)] ⟨((u1V_0 (gtD (rAll t)) o24 (Int.toNat ((imax 0 an) % (((rAll t).length : Nat) : Int))))), (by omega), (by omega), rem2 (by omega) (by omega), trivial⟩ fun ac wd hS => ?_
  refine wp_ret ?_
  refine St.retC 0 hS (vu ((gtD (rAll t)) (Int.toNat ((imax 0 an) % (((rAll t).length : Nat) : Int))))) [] trivial fun hw => ?_
  refine ⟨retd (vint ?_), hw.fr0⟩
  all_goals (first | exact hq | rfl)

set_option maxRecDepth 100000 in
set_option maxHeartbeats 1000000 in
theorem l17_told (b : Nat) (F : Nat → Prop) (m : AM) (o_ : Int) (z : Int) (ao1 : Option Addr) (c1 : Nat) (g1 : Nat) (o1 : Nat) (t : List (Int × Int)) (w : World) (hr : (arR b F m).R w) (hh0 : HE.holds w 1 (.fn 0 64 dbT)) (hh1 : HE.holds w g1 (.fn o1 (o1 + t.length * 2) (slV (gtD t) o1))) (hv1 : (t.length = 0 ∨ ao1 = some ⟨g1, o1, none⟩)) (hR : HRep m o_ z t) :
    Calls Tryd.prog 91 #[.agg #[pt b 0, vi o_, vi z], .slice ao1 t.length c1] w fun e w' => e = .returned (vb true) ∧ Fr w w' no no := by
 have hok := hR.ok
 have hra := rAll_len t
 have hl4 := hR.ok.1
 have hb3 := hR.o0
 have hb4 := hR.z0
 have hln := hR.len
 have h4 : m.cap ≤ 1048576 := (by obtain ⟨d, hd⟩ := id hr; exact hd.capLe)
 have hb5 := inB_facts (thr_in hR.there)
 refine enter (args := [.agg #[pt b 0, vi o_, vi z], .slice ao1 t.length c1]) (D := no) (A := []) Tryd.func91 rfl 68 rfl [(1, .fn 0 64 dbT), (g1, .fn o1 (o1 + t.length * 2) (slV (gtD t) o1))] (WS.startL ⟨⟨rfl, hh0⟩, ⟨rfl, hh1⟩, trivial⟩) fun ac hS => ?_
 refine hS.regS [0, 0] [1] fun ν1 => seg [(2, pt (ν1 0) 0)] [(0, none), (1, none), (2, some ((ν1 0), .cells [pt b 0, vi o_, vi z] 158))] [] trivial fun ac wd hS => ?_
 refine wp_region_seq ?_
 refine hS.opsC 1 [200] [1, 2] fun _ => seg [(13, .agg #[pt b 0, vi o_, vi z])] [(0, none), (1, none), (2, none)] [.e (ν1 0), .e (ν1 0), .e (ν1 0)] trivial fun ac wd hS => ?_
 refine hS.callC 166 #[.agg #[pt b 0, vi o_, vi z]] (h_All_r b F m o_ z t _ (Res.keep hr hS.mem.fr) (hS.mem.get 0 1 (.fn 0 64 dbT)) (by first | assumption | omega | (simp_all; done) | (simp_all; omega))) ?_
 rintro _ wd ⟨ao21, c22, g23, o24, rfl, hv25, hog0, hoh0, hF⟩
 have ho6 : g23 = 1 ∨ w.heap.size ≤ g23 := by have := hS.mem.fr.size; have : w.heap.size ≤ _ := this; omega
 refine ⟨.slice ao21 ((rAll t).length) c22, rfl, ?_⟩
 replace hS := (hS.to (hS.mem.outs hF [(g23, .fn o24 (o24 + (rAll t).length) (u1V (gtD (rAll t)) o24))] ⟨⟨rfl, hoh0, (fun q_ => q_.elim (fun e => .inl ⟨0, .fn 0 64 dbT, by rw [e]; as_aux_lemma => kernel_rfl, rfl⟩) (fun q_ => .inr q_)) hog0⟩, trivial⟩)).put (d := 14) (v := .slice ao21 ((rAll t).length) c22) (by decide)
 clear hF
 refine hS.opsC 1 [0] [1, 2, 14] fun _ => seg [(15, .slice ao1 t.length c1)] [(0, none), (1, none), (2, none), (3, none)] [] trivial fun ac wd hS => ?_
 refine hS.callC 158 #[.slice ao1 t.length c1] (r17_All ao1 c1 g1 o1 t _ (hS.mem.get 0 1 (.fn 0 64 dbT)) (hS.mem.get 1 g1 (.fn o1 (o1 + t.length * 2) (slV (gtD t) o1))) hv1 (by first | assumption | omega | (simp_all; done) | (simp_all; omega))) ?_
 rintro _ wd ⟨ao27, c28, g29, o210, rfl, hv211, hog0, hoh0, hF⟩
 have ho12 : g29 = 1 ∨ w.heap.size ≤ g29 := by have := hS.mem.fr.size; have : w.heap.size ≤ _ := this; omega
 refine ⟨.slice ao27 ((rAll t).length) c28, rfl, ?_⟩
 replace hS := (hS.to (hS.mem.outs hF [(g29, .fn o210 (o210 + (rAll t).length) (u1V (gtD (rAll t)) o210))] ⟨⟨rfl, hoh0, (fun q_ => q_.elim (fun e => .inl ⟨0, .fn 0 64 dbT, by rw [e]; as_aux_lemma => kernel_rfl, rfl⟩) (fun q_ => .inr q_)) hog0⟩, trivial⟩)).put (d := 16) (v := .slice ao27 ((rAll t).length) c28) (by decide)
 clear hF
 refine hS.opsC 2 [0, 0] [1, 2] fun _ => seg [(5, .slice ao21 ((rAll t).length) c22), (6, .slice ao27 ((rAll t).length) c28)] [(0, none), (1, none), (2, none), (3, none), (4, none)] [] trivial fun ac wd hS => ?_
 refine list_nil_seq ?_
 refine wp_seq ?_
 refine wp_region_seq ?_
 refine hS.opsC 6 [0, 0, 0, 0, fx 0 (vb false), 0] [1, 2, 5, 6] fun _ => seg [(22, vb false)] [(0, none), (1, none), (2, none), (3, none), (4, none)] [.p ((vb (((((rAll t).length : Nat) : Int) : Int) != (((rAll t).length : Nat) : Int)) : Value) = vb false)] ⟨(congrArg Value.bool (bne_self_eq_false _)), trivial⟩ fun ac wd hS => ?_
 refine hS.opsC 1 [201] [1, 2, 5, 6, 22] fun _ => seg [(23, .agg #[pt b 0, vi o_, vi z])] [(0, none), (1, none), (2, none), (3, none), (4, none)] [.t false, .e (ν1 0), .e (ν1 0), .e (ν1 0)] trivial fun ac wd hS => ?_
 refine hS.callG false 164 #[.agg #[pt b 0, vi o_, vi z]] (h_Len_r b o_ z t _  (by first | assumption | omega | (simp_all; done) | (simp_all; omega)) (by first | assumption | omega | (simp_all; done) | (simp_all; omega))) ?_
 rintro _ wd ⟨rfl, hF⟩
 refine ⟨vi ((t.length : Nat) : Int), rfl, ?_⟩
 replace hS := (hS.to (hS.mem.keep0 hF)).put (d := 24) (v := vi ((t.length : Nat) : Int)) (by decide)
 clear hF
 refine hS.opsC 4 [1, 1, fx 1 (vb false), 60] [1, 2, 5, 6] fun _ => seg [(28, vb false)] [(0, none), (1, none), (2, none), (3, none), (4, none)] [.t false, .t false, .p ((vb ((((t.length : Nat) : Int) : Int) != ((t.length : Nat) : Int)) : Value) = vb false), .t false, .t false] ⟨(congrArg Value.bool (bne_self_eq_false _)), trivial⟩ fun ac wd hS => ?_
 refine list_nil_seq ?_
 refine hS.condF ?_
 refine wp_skip ?_
 refine pop_then ?_
 refine wp_seq ?_
 refine hS.regS [0, 0, 0] [1, 2, 6] fun _ => seg [(29, .slice ao21 ((rAll t).length) c22), (30, vi (((rAll t).length : Nat) : Int)), (31, vi 0)] [(0, none), (1, none), (2, none), (3, none), (4, none)] [] trivial fun ac wd hS => ?_
 refine wp_block ?_
 refine St.loopC (σ := Int) (fun (x31 : Int) => ⟨[(1, [], .slice ao1 t.length c1), (2, [], pt (ν1 0) 0), (6, [], .slice ao27 ((rAll t).length) c28), (29, [], .slice ao21 ((rAll t).length) c22), (30, [], vi (((rAll t).length : Nat) : Int)), (31, [], vi x31)], [(1, .fn 0 64 dbT), (g1, .fn o1 (o1 + t.length * 2) (slV (gtD t) o1)), ((ν1 0), .cells [pt b 0, vi o_, vi z] 158), (g23, .fn o24 (o24 + (rAll t).length) (u1V (gtD (rAll t)) o24)), (g29, .fn o210 (o210 + (rAll t).length) (u1V (gtD (rAll t)) o210))], [], (0 ≤ x31 ∧ x31 ≤ (((rAll t).length : Nat) : Int)) ∧ True, (rAll t).length - Int.toNat x31⟩) 0 ⟨(by omega), trivial⟩ hS ?_
 clear hS
 rintro x31 ⟨i0, -⟩ ac wd hS
 replace i0 : 0 ≤ x31 ∧ x31 ≤ (((rAll t).length : Nat) : Int) := i0
 refine hS.regS [0] [1, 2, 6, 29, 30, 31] fun _ => seg [(32, vb (decide ((x31 : Int) < (((rAll t).length : Nat) : Int))))] [(0, none), (1, none), (2, none), (3, none), (4, none)] [] trivial fun ac wd hS => ?_
 refine wp_seq ?_
 refine hS.condC (decide ((x31 : Int) < (((rAll t).length : Nat) : Int))) (fun hb13o hb13 => ?_) (fun hb13o hb13 => ?_)
 ·
  have hrg := rAll_rng hok (show Int.toNat x31 < (rAll t).length by omega)
  refine wp_skip ?_
  refine pop_then ?_
  refine wp_seq ?_
  refine wp_block ?_
  obtain rfl : ao21 = some ⟨g23, o24, none⟩ := Or.resolve_left hv25 (by omega)
  refine hS.regS [0, 20, fx 300 (vu ((gtD (rAll t)) (Int.toNat x31))), 0, 0] [1, 2, 6, 29, 30, 31] fun _ => seg [(7, vi x31), (8, vu ((gtD (rAll t)) (Int.toNat x31)))] [(0, none), (1, none), (2, none), (3, none), (4, none)] [.p ((((u1V (gtD (rAll t)) o24) (o24 + Int.toNat x31 * 1)) : Value) = vu ((gtD (rAll t)) (Int.toNat x31))), .e g23, .p (o24 ≤ o24 + Int.toNat x31 * 1 ∧ o24 + Int.toNat x31 * 1 < (o24 + (rAll t).length)), .p ((0 : Int) ≤ x31 ∧ (x31 : Int) < (((rAll t).length : Nat) : Int))] ⟨((u1V_0 (gtD (rAll t)) o24 (Int.toNat x31))), (by omega), (by omega), trivial⟩ fun ac wd hS => ?_
  refine wp_region_seq ?_
  refine hS.opsC 2 [200, 0] [1, 2, 6, 7, 8, 29, 30, 31] fun _ => seg [(37, .agg #[pt b 0, vi o_, vi z]), (38, vu ((gtD (rAll t)) (Int.toNat x31)))] [(0, none), (1, none), (2, none), (3, none), (4, none)] [.e (ν1 0), .e (ν1 0), .e (ν1 0)] trivial fun ac wd hS => ?_
  refine hS.call0 86 #[.agg #[pt b 0, vi o_, vi z], vu ((gtD (rAll t)) (Int.toNat x31))] 39 (h_Get_r b F m o_ z ((gtD (rAll t)) (Int.toNat x31)) t _ (Res.keep hr hS.mem.fr) (by first | assumption | omega | (simp_all; done) | (simp_all; omega)) (by first | assumption | omega | (simp_all; done) | (simp_all; omega))) fun ac wd hS => ?_
  refine hS.opsC 5 [0, 0, 0, 0, 0] [1, 2, 6, 7, 8, 29, 30, 31] fun _ => seg [(9, vi (rGetA t ((gtD (rAll t)) (Int.toNat x31)))), (10, vi (rGetE t ((gtD (rAll t)) (Int.toNat x31))))] [(0, none), (1, none), (2, none), (3, none), (4, none)] [] trivial fun ac wd hS => ?_
  refine list_nil_seq ?_
  obtain rfl : ao27 = some ⟨g29, o210, none⟩ := Or.resolve_left hv211 (by omega)
  refine wp_region_seq ?_
  refine hS.opsC 5 [0, 0, 0, 20, fx 400 (vu ((gtD (rAll t)) (Int.toNat x31)))] [1, 2, 6, 7, 8, 9, 10, 29, 30, 31] fun _ => seg [(43, .slice ao1 t.length c1), (47, vu ((gtD (rAll t)) (Int.toNat x31)))] [(0, none), (1, none), (2, none), (3, none), (4, none)] [.p ((((u1V (gtD (rAll t)) o210) (o210 + Int.toNat x31 * 1)) : Value) = vu ((gtD (rAll t)) (Int.toNat x31))), .e g29, .p (o210 ≤ o210 + Int.toNat x31 * 1 ∧ o210 + Int.toNat x31 * 1 < (o210 + (rAll t).length)), .p ((0 : Int) ≤ x31 ∧ (x31 : Int) < (((rAll t).length : Nat) : Int))] ⟨((u1V_0 (gtD (rAll t)) o210 (Int.toNat x31))), (by omega), (by omega), trivial⟩ fun ac wd hS => ?_
  refine hS.call0 87 #[.slice ao1 t.length c1, vu ((gtD (rAll t)) (Int.toNat x31))] 48 (r17_Get ao1 c1 g1 o1 t ((gtD (rAll t)) (Int.toNat x31)) _ (hS.mem.get 1 g1 (.fn o1 (o1 + t.length * 2) (slV (gtD t) o1))) hv1 (by first | assumption | omega | (simp_all; done) | (simp_all; omega))) fun ac wd hS => ?_
  refine hS.opsC 5 [0, 0, 0, 0, 0] [1, 2, 6, 7, 8, 9, 10, 29, 30, 31] fun _ => seg [(11, vi (rGetA t ((gtD (rAll t)) (Int.toNat x31)))), (12, vi (rGetE t ((gtD (rAll t)) (Int.toNat x31))))] [(0, none), (1, none), (2, none), (3, none), (4, none)] [] trivial fun ac wd hS => ?_
  refine list_nil_seq ?_
  refine hS.regS [0, 0, 0, 20, fx 400 (vu ((gtD (rAll t)) (Int.toNat x31))), fx 0 (vb false), 0, 1, 1, fx 1 (vb false), 60, 0, 1, 1, fx 1 (vb false), 60] [1, 2, 6, 29, 30, 31] fun _ => seg [(66, vb false)] [(0, none), (1, none), (2, none), (3, none), (4, none)] [.t false, .t false, .p ((vb (((rGetE t ((gtD (rAll t)) (Int.toNat x31))) : Int) != (rGetE t ((gtD (rAll t)) (Int.toNat x31)))) : Value) = vb false), .t false, .t false, .t false, .t false, .p ((vb (((rGetA t ((gtD (rAll t)) (Int.toNat x31))) : Int) != (rGetA t ((gtD (rAll t)) (Int.toNat x31)))) : Value) = vb false), .t false, .t false, .p ((vb ((((gtD (rAll t)) (Int.toNat x31)) : Int) != ((gtD (rAll t)) (Int.toNat x31))) : Value) = vb false), .p ((((u1V (gtD (rAll t)) o210) (o210 + Int.toNat x31 * 1)) : Value) = vu ((gtD (rAll t)) (Int.toNat x31))), .e g29, .p (o210 ≤ o210 + Int.toNat x31 * 1 ∧ o210 + Int.toNat x31 * 1 < (o210 + (rAll t).length)), .p ((0 : Int) ≤ x31 ∧ (x31 : Int) < (((rAll t).length : Nat) : Int))] ⟨(congrArg Value.bool (bne_self_eq_false _)), (congrArg Value.bool (bne_self_eq_false _)), (congrArg Value.bool (bne_self_eq_false _)), ((u1V_0 (gtD (rAll t)) o210 (Int.toNat x31))), (by omega), (by omega), trivial⟩ fun ac wd hS => ?_
  refine hS.condF ?_
  refine wp_skip ?_
  refine pop_block ?_
  refine pop_then ?_
  refine hS.regC [20, 0] [1, 2, 6, 29, 30] fun _ => seg [(31, vi (x31 + 1))] [(0, none), (1, none), (2, none), (3, none), (4, none)] [.p (fit .i64 (x31 + 1))] ⟨fit_i64 (by omega), trivial⟩ fun ac wd hS => ?_
  exact pop_then (hS.next (x31 + 1) ⟨(by first | omega | assumption | (simp; done) | (simp; omega)), trivial⟩ (by dsimp only; omega))
 ·
  refine wp_exit ?_
  refine pop_then_exit ?_
  refine pop_then_exit ?_
  refine pop_block_hit ?_
  refine pop_then ?_
  refine hS.regS [0] [] fun _ => seg [(4, vb true)] [(0, none)] [] trivial fun ac wd hS => ?_
  refine wp_ret ?_
  refine St.retC 0 hS (vb true) [] trivial fun hw => ?_
  refine ⟨retd rfl, hw.fr0⟩

set_option maxRecDepth 100000 in
set_option maxHeartbeats 1000000 in
theorem law17_HandlePlays (size : Int) (ao7 : Option Addr) (c7 : Nat) (g7 : Nat) (o7 : Nat) (l : List (Int × Int × Int × Int × Bool)) (w : World) (hh0 : HE.holds w 1 (.fn 0 64 dbT)) (hh1 : HE.holds w g7 (.fn o7 (o7 + l.length * 5) (aHV (gtD l) o7))) (hv7 : (l.length = 0 ∨ ao7 = some ⟨g7, o7, none⟩)) (hsz : 0 ≤ size ∧ size ≤ 65535) (hA : ∀ i, i < l.length → rg_aHV (gtD l i)) :
    Calls Tryd.prog 12 #[.int .u16 size, .slice ao7 l.length c7] w fun e w' => e = .returned (vb true) ∧ Fr w w' no no := by
 refine enter (args := [.int .u16 size, .slice ao7 l.length c7]) (D := no) (A := []) Tryd.func12 rfl 175 rfl [(1, .fn 0 64 dbT), (g7, .fn o7 (o7 + l.length * 5) (aHV (gtD l) o7))] (WS.startL ⟨⟨rfl, hh0⟩, ⟨rfl, hh1⟩, trivial⟩) fun ac hS => ?_
 refine hS.regS [0] [0, 1] fun _ => seg [] [(0, none), (1, none)] [] trivial fun ac wd hS => ?_
 refine wp_seq ?_
 refine wp_region_seq ?_
 refine hS.call0 79 #[] 31 (law17_awake  _ (hS.mem.get 0 1 (.fn 0 64 dbT)) ) fun ac wd hS => ?_
 refine hS.opsC 1 [0] [0, 1] fun _ => seg [(32, vb false)] [(0, none), (1, none)] [] trivial fun ac wd hS => ?_
 refine list_nil_seq ?_
 refine hS.condF ?_
 refine wp_skip ?_
 refine pop_then ?_
 refine wp_seq ?_
 refine hS.regS [0, 0, 0] [0, 1] fun _ => seg [(35, vb (decide ((80 : Int) < ((l.length : Nat) : Int))))] [(0, none), (1, none)] [] trivial fun ac wd hS => ?_
 refine hS.condC (decide ((80 : Int) < ((l.length : Nat) : Int))) (fun hb1o hb1 => ?_) (fun hb1o hb1 => ?_)
 ·
  refine hS.regS [0] [] fun _ => seg [(4, vb true)] [(0, none)] [] trivial fun ac wd hS => ?_
  refine wp_ret ?_
  refine pop_then_ret ?_
  refine St.retC 0 hS (vb true) [] trivial fun hw => ?_
  refine ⟨retd rfl, hw.fr0⟩
 ·
  refine wp_skip ?_
  refine pop_then ?_
  refine hS.regS [0, 20, 20, 0] [1] fun _ => seg [(5, vi (size % 5001))] [(0, none), (1, none)] [.p ((5001 : Int) ≠ 0 ∧ Int.tmod size 5001 = size % 5001), .p (fit .i64 size)] ⟨rem2 (by omega) (by omega), fit_i64 (by omega), trivial⟩ fun ac wd hS => ?_
  obtain ⟨nn, nn_e⟩ : ∃ q_ : Int, q_ = (size % 5001) := ⟨_, rfl⟩
  replace hS := hS.fix 5 (vi nn) (show (vi (size % 5001) : Value) = vi nn by rw [nn_e])
  have hnn : 0 ≤ nn ∧ nn ≤ 5000 := by omega
  clear nn_e
  have hln := hLen_bd (z := nn) (by omega)
  refine wp_region_seq ?_
  refine hS.opsC 1 [0] [1, 5] fun _ => seg [(40, vi nn)] [(0, none), (1, none)] [] trivial fun ac wd hS => ?_
  refine hS.callC 80 #[vi nn] (law17_open nn _  (by omega)) ?_
  rintro _ wd ⟨b'2, F3, rfl, hN, hF⟩
  refine ⟨.tuple #[pt b'2 0, .agg #[pt b'2 0, vi 16, vi nn], vb true], rfl, ?_⟩
  replace hS := (hS.to (hS.mem.newA hN hF)).put (d := 41) (v := .tuple #[pt b'2 0, .agg #[pt b'2 0, vi 16, vi nn], vb true]) (by decide)
  clear hF
  refine hS.opsC 8 [0, 0, 0, 0, 0, 0, 200, 0] [1, 5] fun ν7 => seg [(6, pt b'2 0), (7, pt (ν7 0) 0), (8, vb true)] [(0, none), (1, none), (2, some ((ν7 0), .cells [pt b'2 0, vi 16, vi nn] 158))] [.e (ν7 0), .e (ν7 0), .e (ν7 0)] trivial fun ac wd hS => ?_
  refine list_nil_seq ?_
  refine wp_seq ?_
  refine hS.regS [0, 0] [1, 5, 6, 7] fun _ => seg [(46, vb false)] [(0, none), (1, none), (2, none)] [] trivial fun ac wd hS => ?_
  refine hS.condF ?_
  refine wp_skip ?_
  refine pop_then ?_
  refine wp_region_seq ?_
  refine hS.opsC 3 [0, 20, fx 0 (vi (hLen nn))] [1, 5, 6, 7] fun _ => seg [(49, vi (hLen nn))] [(0, none), (1, none), (2, none)] [.p ((vi (imin (nn / 16) 256) : Value) = vi (hLen nn)), .p ((16 : Int) ≠ 0 ∧ IntKind.i64.wrap (Int.tdiv nn 16) = nn / 16)] ⟨(vint (rfl)), quo2 (by omega) (by omega) (by omega), trivial⟩ fun ac wd hS => ?_
  refine Runs1.list ?_
  obtain ⟨i_, hi_, hz_, hs_, hb_⟩ := info_get (P := Tryd.prog) (e := 260) (z := .agg #[vi 0, vu 0]) (s := 2) (b := 16) (by kernel_rfl)
  refine St.makeV hS 161 (.tmp 49) (.tmp 49) rfl rfl (by decide) Tryd.underlying161 hi_ hz_ hs_ rfl (by omega) (by decide) (q := (hLen nn)) (q2 := (hLen nn)) rfl (by omega) (f := (slV (fun _ => (0, 0)) 0)) (slV_zero) fun ac wd gm4 hm5 hS => ?_
  refine hS.opsC 1 [0] [1, 5, 6, 7] fun _ => seg [(9, sc gm4 0 (Int.toNat (hLen nn)) (Int.toNat (hLen nn)))] [(0, none), (1, none), (2, none), (3, none)] [] trivial fun ac wd hS => ?_
  refine list_nil_seq ?_
  refine wp_seq ?_
  refine hS.regS [0, 0, 0] [5, 6, 7, 9] fun _ => seg [(51, .slice ao7 l.length c7), (52, vi ((l.length : Nat) : Int)), (53, vi 0)] [(0, none), (1, none), (2, none), (3, none)] [] trivial fun ac wd hS => ?_
  refine wp_block ?_
  have hZ : HRep (comM (AM.new 2) 0 2) 16 nn (List.replicate (Int.toNat (hLen nn)) ((0, 0) : Int × Int)) := HRep.zero (comM_zero (fun _ => rfl) 0 2) (page_thr2 (by omega)) (by decide) (by omega) (by rw [List.length_replicate]; omega) (fun i hi => gtD_rep (by simpa using hi))
  have hn_ : (List.replicate (Int.toNat (hLen nn)) ((0, 0) : Int × Int)).length = (Int.toNat (hLen nn)) := by first | rfl | simp
  replace hS := hS.fix 9 (sc gm4 0 ((List.replicate (Int.toNat (hLen nn)) ((0, 0) : Int × Int)).length) (Int.toNat (hLen nn))) (show (sc gm4 0 (Int.toNat (hLen nn)) (Int.toNat (hLen nn)) : Value) = sc gm4 0 ((List.replicate (Int.toNat (hLen nn)) ((0, 0) : Int × Int)).length) (Int.toNat (hLen nn)) by rw [hn_])
  replace hS := hS.to (hS.mem.share (b := gm4) (e := 260) (m := ((Int.toNat (hLen nn)) * 2)) (tot := ((Int.toNat (hLen nn)) * 2)) (f := (slV (fun _ => (0, 0)) 0)) 3 (0 + (List.replicate (Int.toNat (hLen nn)) ((0, 0) : Int × Int)).length * 2) (slV (gtD (List.replicate (Int.toNat (hLen nn)) ((0, 0) : Int × Int))) 0) (by omega) (slV_cg0 (fun i hi => (gtD_rep hi).symm)))
  refine St.loopC (σ := Int × (Nat → Prop) × AM × Option Addr × Nat × Nat × Nat × (List (Int × Int))) (fun (x : Int × (Nat → Prop) × AM × Option Addr × Nat × Nat × Nat × (List (Int × Int))) => match x with | (x53, Fx, mx, aoq, cq, gq, oq, lq) => ⟨[(5, [], vi nn), (6, [], pt b'2 0), (7, [], pt (ν7 0) 0), (9, [], .slice aoq lq.length cq), (51, [], .slice ao7 l.length c7), (52, [], vi ((l.length : Nat) : Int)), (53, [], vi x53)], [(1, .fn 0 64 dbT), (g7, .fn o7 (o7 + l.length * 5) (aHV (gtD l) o7)), ((ν7 0), .cells [pt b'2 0, vi 16, vi nn] 158), (gq, .fn oq (oq + lq.length * 2) (slV (gtD lq) oq))], [arR b'2 Fx mx], (0 ≤ x53 ∧ x53 ≤ ((l.length : Nat) : Int)) ∧ (HRep mx 16 nn lq) ∧ (lq.length = 0 ∨ aoq = some ⟨gq, oq, none⟩) ∧ True, l.length - Int.toNat x53⟩) (0, F3, (comM (AM.new 2) 0 2), (some ⟨gm4, 0, none⟩), (Int.toNat (hLen nn)), gm4, 0, (List.replicate (Int.toNat (hLen nn)) ((0, 0) : Int × Int))) ⟨(by omega), (by exact hZ), (by exact (.inr rfl)), trivial⟩ hS ?_
  clear hS
  rintro ⟨x53, Fx, mx, aoq, cq, gq, oq, lq⟩ ⟨i0, i1, hvq, -⟩ ac wd hS
  replace i0 : 0 ≤ x53 ∧ x53 ≤ ((l.length : Nat) : Int) := i0
  replace i1 : HRep mx 16 nn lq := i1
  replace hvq : lq.length = 0 ∨ aoq = some ⟨gq, oq, none⟩ := hvq
  refine hS.regS [0] [5, 6, 7, 9, 51, 52, 53] fun _ => seg [(54, vb (decide ((x53 : Int) < ((l.length : Nat) : Int))))] [(0, none), (1, none), (2, none), (3, none)] [] trivial fun ac wd hS => ?_
  refine wp_seq ?_
  refine hS.condC (decide ((x53 : Int) < ((l.length : Nat) : Int))) (fun hb6o hb6 => ?_) (fun hb6o hb6 => ?_)
  ·
   refine wp_skip ?_
   refine pop_then ?_
   refine wp_seq ?_
   refine wp_block ?_
   obtain rfl : ao7 = some ⟨g7, o7, none⟩ := Or.resolve_left hv7 (by omega)
   refine hS.regS [20, fx 100 (.agg #[v8 (((gtD l) (Int.toNat x53)).1), vi (((gtD l) (Int.toNat x53)).2.1), vi (((gtD l) (Int.toNat x53)).2.2.1), vu (((gtD l) (Int.toNat x53)).2.2.2.1), vb (((gtD l) (Int.toNat x53)).2.2.2.2)]), 0, 400] [5, 6, 7, 9, 51, 52, 53] fun ν13 => seg [(11, pt (ν13 0) 0)] [(0, none), (1, none), (2, none), (3, none), (4, some ((ν13 0), .cells [v8 (((gtD l) (Int.toNat x53)).1), vi (((gtD l) (Int.toNat x53)).2.1), vi (((gtD l) (Int.toNat x53)).2.2.1), vu (((gtD l) (Int.toNat x53)).2.2.2.1), vb (((gtD l) (Int.toNat x53)).2.2.2.2)] 164))] [.e (ν13 0), .e (ν13 0), .e (ν13 0), .e (ν13 0), .e (ν13 0), .p ((.agg #[((aHV (gtD l) o7) (o7 + Int.toNat x53 * 5)), ((aHV (gtD l) o7) (o7 + Int.toNat x53 * 5 + 1)), ((aHV (gtD l) o7) (o7 + Int.toNat x53 * 5 + 2)), ((aHV (gtD l) o7) (o7 + Int.toNat x53 * 5 + 3)), ((aHV (gtD l) o7) (o7 + Int.toNat x53 * 5 + 4))] : Value) = .agg #[v8 (((gtD l) (Int.toNat x53)).1), vi (((gtD l) (Int.toNat x53)).2.1), vi (((gtD l) (Int.toNat x53)).2.2.1), vu (((gtD l) (Int.toNat x53)).2.2.2.1), vb (((gtD l) (Int.toNat x53)).2.2.2.2)]), .e g7, .p (o7 ≤ o7 + Int.toNat x53 * 5 + 4 ∧ o7 + Int.toNat x53 * 5 + 4 < (o7 + l.length * 5)), .e g7, .p (o7 ≤ o7 + Int.toNat x53 * 5 + 3 ∧ o7 + Int.toNat x53 * 5 + 3 < (o7 + l.length * 5)), .e g7, .p (o7 ≤ o7 + Int.toNat x53 * 5 + 2 ∧ o7 + Int.toNat x53 * 5 + 2 < (o7 + l.length * 5)), .e g7, .p (o7 ≤ o7 + Int.toNat x53 * 5 + 1 ∧ o7 + Int.toNat x53 * 5 + 1 < (o7 + l.length * 5)), .e g7, .p (o7 ≤ o7 + Int.toNat x53 * 5 ∧ o7 + Int.toNat x53 * 5 < (o7 + l.length * 5)), .p ((0 : Int) ≤ x53 ∧ (x53 : Int) < ((l.length : Nat) : Int))] ⟨(agg5 (aHV_0 (gtD l) o7 (Int.toNat x53)) (aHV_1 (gtD l) o7 (Int.toNat x53)) (aHV_2 (gtD l) o7 (Int.toNat x53)) (aHV_3 (gtD l) o7 (Int.toNat x53)) (aHV_4 (gtD l) o7 (Int.toNat x53))), (by omega), (by omega), (by omega), (by omega), (by omega), (by omega), trivial⟩ fun ac wd hS => ?_
   obtain ⟨ad, ad_e⟩ : ∃ q_ : Int, q_ = ((gtD l) (Int.toNat x53)).1 := ⟨_, rfl⟩
   obtain ⟨an, an_e⟩ : ∃ q_ : Int, q_ = ((gtD l) (Int.toNat x53)).2.1 := ⟨_, rfl⟩
   obtain ⟨aa, aa_e⟩ : ∃ q_ : Int, q_ = ((gtD l) (Int.toNat x53)).2.2.1 := ⟨_, rfl⟩
   obtain ⟨ah, ah_e⟩ : ∃ q_ : Int, q_ = ((gtD l) (Int.toNat x53)).2.2.2.1 := ⟨_, rfl⟩
   obtain ⟨ob, ob_e⟩ : ∃ q_ : Bool, q_ = (((gtD l) (Int.toNat x53)).2.2.2.2) := ⟨_, rfl⟩
   replace hS := hS.to (hS.mem.tell 4 (b := (ν13 0)) (x := (.cells [v8 (((gtD l) (Int.toNat x53)).1), vi (((gtD l) (Int.toNat x53)).2.1), vi (((gtD l) (Int.toNat x53)).2.2.1), vu (((gtD l) (Int.toNat x53)).2.2.2.1), vb (((gtD l) (Int.toNat x53)).2.2.2.2)] 164)) (.cells [v8 ad, vi an, vi aa, vu ah, vb ob] 164) (hh := fun h_ => by rw [ad_e, an_e, aa_e, ah_e, ob_e]; exact h_))
   have hac := hA _ (show Int.toNat x53 < l.length by omega)
   unfold rg_aHV at hac
   rw [← ad_e, ← an_e, ← aa_e, ← ah_e] at hac
   clear ad_e an_e aa_e ah_e ob_e
   obtain ⟨hac1, hac2, hac3, hac4, _⟩ := hac
   have hx14 := rName_rng i1.ok (n := an) (h := ah) (o := ob) hac4
   refine hS.regS [0, 0] [5, 6, 7, 9, 11, 51, 52, 53] fun _ => seg [] [(0, none), (1, none), (2, none), (3, none), (4, none)] [] trivial fun ac wd hS => ?_
   refine wp_region_seq ?_
   refine hS.opsC 2 [0, 400] [5, 6, 7, 9, 11, 51, 52, 53] fun _ => seg [(57, .slice aoq lq.length cq), (58, .agg #[v8 ad, vi an, vi aa, vu ah, vb ob])] [(0, none), (1, none), (2, none), (3, none), (4, none)] [.e (ν13 0), .e (ν13 0), .e (ν13 0), .e (ν13 0), .e (ν13 0)] trivial fun ac wd hS => ?_
   refine hS.call0 81 #[.slice aoq lq.length cq, .agg #[v8 ad, vi an, vi aa, vu ah, vb ob]] 59 (l17_name aoq cq gq oq lq ad an aa ah ob _ (hS.mem.get 0 1 (.fn 0 64 dbT)) (hS.mem.get 3 gq (.fn oq (oq + lq.length * 2) (slV (gtD lq) oq))) hvq (by exact i1.ok) (by first | assumption | omega | (simp_all; done) | (simp_all; omega))) fun ac wd hS => ?_
   refine hS.opsC 1 [0] [5, 6, 7, 9, 11, 51, 52, 53] fun _ => seg [(14, vu (rName lq an ah ob))] [(0, none), (1, none), (2, none), (3, none), (4, none)] [] trivial fun ac wd hS => ?_
   refine list_nil_seq ?_
   refine wp_seq ?_
   obtain ⟨hx, hx_e⟩ : ∃ q_ : Int, q_ = (rName lq an ah ob) := ⟨_, rfl⟩
   replace hS := hS.fix 14 (vu hx) (show (vu (rName lq an ah ob) : Value) = vu hx by rw [hx_e])
   rw [← hx_e] at hx14
   clear hx_e
   refine hS.regS [0, 400, 20] [5, 6, 7, 9, 11, 14, 51, 52, 53] fun _ => seg [(62, v8 (ad % 6))] [(0, none), (1, none), (2, none), (3, none), (4, none)] [.p ((6 : Int) ≠ 0 ∧ Int.tmod ad 6 = ad % 6), .e (ν13 0)] ⟨rem2 (by omega) (by omega), trivial⟩ fun ac wd hS => ?_
   refine wp_block ?_
   refine hS.regS [0, 0] [5, 6, 7, 9, 11, 14, 51, 52, 53, 62] fun _ => seg [(105, vb (((ad % 6) : Int) == 3))] [(0, none), (1, none), (2, none), (3, none), (4, none)] [] trivial fun ac wd hS => ?_
   refine hS.condC (((ad % 6) : Int) == 3) (fun hb7o hb7 => ?_) (fun hb7o hb7 => ?_)
   ·
    refine wp_region_seq ?_
    refine hS.opsC 2 [200, 0] [5, 6, 7, 9, 14, 51, 52, 53] fun _ => seg [(107, .agg #[pt b'2 0, vi 16, vi nn]), (108, vu hx)] [(0, none), (1, none), (2, none), (3, none)] [.e (ν7 0), .e (ν7 0), .e (ν7 0)] trivial fun ac wd hS => ?_
    refine hS.callC 82 #[.agg #[pt b'2 0, vi 16, vi nn], vu hx] (h_Drop_r b'2 Fx mx 16 nn hx lq _ (hS.mem.res 0) (by exact i1) (by first | assumption | omega | (simp_all; done) | (simp_all; omega))) ?_
    rintro _ wd ⟨F8, rfl, hA, hF⟩
    refine ⟨vi (rGetE lq hx), rfl, ?_⟩
    replace hS := (hS.to (hS.mem.stepA 0 rfl hA hF)).put (d := 109) (v := vi (rGetE lq hx)) (by decide)
    clear hF
    refine hS.opsC 1 [0] [5, 6, 7, 9, 14, 51, 52, 53] fun _ => seg [(12, vi (rGetE lq hx))] [(0, none), (1, none), (2, none), (3, none)] [] trivial fun ac wd hS => ?_
    refine list_nil_seq ?_
    refine wp_region_lit ?_
    refine hS.opsC 2 [0, 0] [5, 6, 7, 9, 12, 51, 52, 53] fun _ => seg [(111, .slice aoq lq.length cq), (112, vu hx)] [(0, none), (1, none), (2, none), (3, none)] [] trivial fun ac wd hS => ?_
    refine hS.callC 83 #[.slice aoq lq.length cq, vu hx] (r17_Drop aoq cq gq oq lq hx _ (hS.mem.get 3 gq (.fn oq (oq + lq.length * 2) (slV (gtD lq) oq))) hvq (by exact i1.ok)) ?_
    rintro _ wd ⟨ao29, c210, g211, o212, rfl, hv213, hog0, hoh0, hF⟩
    have ho14 : g211 = gq ∨ w.heap.size ≤ g211 := by have := hS.mem.fr.size; have : w.heap.size ≤ _ := this; omega
    refine ⟨.tuple #[.slice ao29 ((rDroT lq hx).length) c210, vi (rGetE lq hx)], rfl, ?_⟩
    replace hS := (hS.to (hS.mem.outs hF [(g211, .fn o212 (o212 + (rDroT lq hx).length * 2) (slV (gtD (rDroT lq hx)) o212))] ⟨⟨rfl, hoh0, (fun q_ => q_.elim (fun e => .inl ⟨3, .fn oq (oq + lq.length * 2) (slV (gtD lq) oq), by rw [e]; as_aux_lemma => kernel_rfl, rfl⟩) (fun q_ => .inr q_)) hog0⟩, trivial⟩)).put (d := 113) (v := .tuple #[.slice ao29 ((rDroT lq hx).length) c210, vi (rGetE lq hx)]) (by decide)
    clear hF
    refine hS.opsC 5 [0, 0, 0, 0, 0] [5, 6, 7, 12, 51, 52, 53] fun _ => seg [(9, .slice ao29 ((rDroT lq hx).length) c210), (13, vi (rGetE lq hx))] [(0, none), (1, none), (2, none), (4, none)] [] trivial fun ac wd hS => ?_
    refine list_nil ?_
    refine pop_block ?_
    refine pop_then ?_
    refine wp_region_seq ?_
    refine hS.opsC 4 [0, 0, fx 0 (vb false), 0] [5, 6, 7, 9, 51, 52, 53] fun _ => seg [(153, vb false)] [(0, none), (1, none), (2, none), (3, none)] [.p ((vb (((rGetE lq hx) : Int) != (rGetE lq hx)) : Value) = vb false)] ⟨(congrArg Value.bool (bne_self_eq_false _)), trivial⟩ fun ac wd hS => ?_
    refine hS.opsC 2 [201, 1] [5, 6, 7, 9, 51, 52, 53, 153] fun _ => seg [(154, .agg #[pt b'2 0, vi 16, vi nn]), (155, .slice ao29 ((rDroT lq hx).length) c210)] [(0, none), (1, none), (2, none), (3, none)] [.t false, .t false, .e (ν7 0), .e (ν7 0), .e (ν7 0)] trivial fun ac wd hS => ?_
    refine hS.callG false 91 #[.agg #[pt b'2 0, vi 16, vi nn], .slice ao29 ((rDroT lq hx).length) c210] (l17_told b'2 F8 (hDrM mx 16 nn hx) 16 nn ao29 c210 g211 o212 (rDroT lq hx) _ (hS.mem.res 0) (hS.mem.get 0 1 (.fn 0 64 dbT)) (hS.mem.get 3 g211 (.fn o212 (o212 + (rDroT lq hx).length * 2) (slV (gtD (rDroT lq hx)) o212))) hv213 (by first | with_reducible assumption | exact i1.dro hx14 | exact (i1.mov hx14 hac3.2).1 | exact (i1.new hac3.2).1 | exact i1)) ?_
    rintro _ wd ⟨rfl, hF⟩
    refine ⟨vb true, rfl, ?_⟩
    replace hS := (hS.to (hS.mem.keep0 hF)).put (d := 156) (v := vb true) (by decide)
    clear hF
    refine hS.opsC 2 [1, 60] [5, 6, 7, 9, 51, 52, 53] fun _ => seg [(158, vb false)] [(0, none), (1, none), (2, none), (3, none)] [.t false, .t false] trivial fun ac wd hS => ?_
    refine list_nil_seq ?_
    refine hS.condF ?_
    refine wp_skip ?_
    refine pop_block ?_
    refine pop_then ?_
    refine hS.regC [20, 0] [5, 6, 7, 9, 51, 52] fun _ => seg [(53, vi (x53 + 1))] [(0, none), (1, none), (2, none), (3, none)] [.p (fit .i64 (x53 + 1))] ⟨fit_i64 (by omega), trivial⟩ fun ac wd hS => ?_
    replace hS := hS.perm (H' := [(1, .fn 0 64 dbT), (g7, .fn o7 (o7 + l.length * 5) (aHV (gtD l) o7)), ((ν7 0), .cells [pt b'2 0, vi 16, vi nn] 158), (g211, .fn o212 (o212 + (rDroT lq hx).length * 2) (slV (gtD (rDroT lq hx)) o212))]) [0, 1, 2, 3] (by as_aux_lemma => kernel_rfl) (by decide)
    exact pop_then (hS.next ((x53 + 1), F8, (hDrM mx 16 nn hx), ao29, c210, g211, o212, (rDroT lq hx)) ⟨(by omega), (by first | exact i1.dro hx14 | exact (i1.mov hx14 hac3.2).1 | exact (i1.new hac3.2).1 | exact i1), (by exact hv213), trivial⟩ (by dsimp only; omega))
   ·
    refine hS.regS [0, 0] [5, 6, 7, 9, 11, 14, 51, 52, 53, 62] fun _ => seg [(116, vb (((ad % 6) : Int) == 4))] [(0, none), (1, none), (2, none), (3, none), (4, none)] [] trivial fun ac wd hS => ?_
    refine hS.condC (((ad % 6) : Int) == 4) (fun hb15o hb15 => ?_) (fun hb15o hb15 => ?_)
    ·
     refine wp_region_seq ?_
     refine hS.opsC 4 [200, 0, 0, 400] [5, 6, 7, 9, 11, 14, 51, 52, 53] fun _ => seg [(118, .agg #[pt b'2 0, vi 16, vi nn]), (119, vu hx), (121, vi aa)] [(0, none), (1, none), (2, none), (3, none), (4, none)] [.e (ν13 0), .e (ν7 0), .e (ν7 0), .e (ν7 0)] trivial fun ac wd hS => ?_
     refine hS.callC 84 #[.agg #[pt b'2 0, vi 16, vi nn], vu hx, vi aa] (h_Move_r b'2 Fx mx 16 nn hx aa lq _ (hS.mem.res 0) (by exact i1) (by first | assumption | omega | (simp_all; done) | (simp_all; omega)) (by first | assumption | omega | (simp_all; done) | (simp_all; omega))) ?_
     rintro _ wd ⟨F16, rfl, hA, hF⟩
     refine ⟨vi (rMovE lq hx aa), rfl, ?_⟩
     replace hS := (hS.to (hS.mem.stepA 0 rfl hA hF)).put (d := 122) (v := vi (rMovE lq hx aa)) (by decide)
     clear hF
     refine hS.opsC 1 [0] [5, 6, 7, 9, 11, 14, 51, 52, 53] fun _ => seg [(12, vi (rMovE lq hx aa))] [(0, none), (1, none), (2, none), (3, none), (4, none)] [] trivial fun ac wd hS => ?_
     refine list_nil_seq ?_
     refine wp_region_lit ?_
     refine hS.opsC 4 [0, 0, 0, 400] [5, 6, 7, 9, 12, 51, 52, 53] fun _ => seg [(124, .slice aoq lq.length cq), (125, vu hx), (127, vi aa)] [(0, none), (1, none), (2, none), (3, none)] [.e (ν13 0)] trivial fun ac wd hS => ?_
     refine hS.callC 85 #[.slice aoq lq.length cq, vu hx, vi aa] (r17_Move aoq cq gq oq lq hx aa _ (hS.mem.get 3 gq (.fn oq (oq + lq.length * 2) (slV (gtD lq) oq))) hvq (by exact i1.ok)) ?_
     rintro _ wd ⟨ao217, c218, g219, o220, rfl, hv221, hog0, hoh0, hF⟩
     have ho22 : g219 = gq ∨ w.heap.size ≤ g219 := by have := hS.mem.fr.size; have : w.heap.size ≤ _ := this; omega
     refine ⟨.tuple #[.slice ao217 ((rMovT lq hx aa).length) c218, vi (rMovE lq hx aa)], rfl, ?_⟩
     replace hS := (hS.to (hS.mem.outs hF [(g219, .fn o220 (o220 + (rMovT lq hx aa).length * 2) (slV (gtD (rMovT lq hx aa)) o220))] ⟨⟨rfl, hoh0, (fun q_ => q_.elim (fun e => .inl ⟨3, .fn oq (oq + lq.length * 2) (slV (gtD lq) oq), by rw [e]; as_aux_lemma => kernel_rfl, rfl⟩) (fun q_ => .inr q_)) hog0⟩, trivial⟩)).put (d := 128) (v := .tuple #[.slice ao217 ((rMovT lq hx aa).length) c218, vi (rMovE lq hx aa)]) (by decide)
     clear hF
     refine hS.opsC 5 [0, 0, 0, 0, 0] [5, 6, 7, 12, 51, 52, 53] fun _ => seg [(9, .slice ao217 ((rMovT lq hx aa).length) c218), (13, vi (rMovE lq hx aa))] [(0, none), (1, none), (2, none), (4, none)] [] trivial fun ac wd hS => ?_
     refine list_nil ?_
     refine pop_block ?_
     refine pop_then ?_
     refine wp_region_seq ?_
     refine hS.opsC 4 [0, 0, fx 0 (vb false), 0] [5, 6, 7, 9, 51, 52, 53] fun _ => seg [(153, vb false)] [(0, none), (1, none), (2, none), (3, none)] [.p ((vb (((rMovE lq hx aa) : Int) != (rMovE lq hx aa)) : Value) = vb false)] ⟨(congrArg Value.bool (bne_self_eq_false _)), trivial⟩ fun ac wd hS => ?_
     refine hS.opsC 2 [201, 1] [5, 6, 7, 9, 51, 52, 53, 153] fun _ => seg [(154, .agg #[pt b'2 0, vi 16, vi nn]), (155, .slice ao217 ((rMovT lq hx aa).length) c218)] [(0, none), (1, none), (2, none), (3, none)] [.t false, .t false, .e (ν7 0), .e (ν7 0), .e (ν7 0)] trivial fun ac wd hS => ?_
     refine hS.callG false 91 #[.agg #[pt b'2 0, vi 16, vi nn], .slice ao217 ((rMovT lq hx aa).length) c218] (l17_told b'2 F16 (hMvM mx 16 nn hx aa) 16 nn ao217 c218 g219 o220 (rMovT lq hx aa) _ (hS.mem.res 0) (hS.mem.get 0 1 (.fn 0 64 dbT)) (hS.mem.get 3 g219 (.fn o220 (o220 + (rMovT lq hx aa).length * 2) (slV (gtD (rMovT lq hx aa)) o220))) hv221 (by first | with_reducible assumption | exact i1.dro hx14 | exact (i1.mov hx14 hac3.2).1 | exact (i1.new hac3.2).1 | exact i1)) ?_
     rintro _ wd ⟨rfl, hF⟩
     refine ⟨vb true, rfl, ?_⟩
     replace hS := (hS.to (hS.mem.keep0 hF)).put (d := 156) (v := vb true) (by decide)
     clear hF
     refine hS.opsC 2 [1, 60] [5, 6, 7, 9, 51, 52, 53] fun _ => seg [(158, vb false)] [(0, none), (1, none), (2, none), (3, none)] [.t false, .t false] trivial fun ac wd hS => ?_
     refine list_nil_seq ?_
     refine hS.condF ?_
     refine wp_skip ?_
     refine pop_block ?_
     refine pop_then ?_
     refine hS.regC [20, 0] [5, 6, 7, 9, 51, 52] fun _ => seg [(53, vi (x53 + 1))] [(0, none), (1, none), (2, none), (3, none)] [.p (fit .i64 (x53 + 1))] ⟨fit_i64 (by omega), trivial⟩ fun ac wd hS => ?_
     replace hS := hS.perm (H' := [(1, .fn 0 64 dbT), (g7, .fn o7 (o7 + l.length * 5) (aHV (gtD l) o7)), ((ν7 0), .cells [pt b'2 0, vi 16, vi nn] 158), (g219, .fn o220 (o220 + (rMovT lq hx aa).length * 2) (slV (gtD (rMovT lq hx aa)) o220))]) [0, 1, 2, 3] (by as_aux_lemma => kernel_rfl) (by decide)
     exact pop_then (hS.next ((x53 + 1), F16, (hMvM mx 16 nn hx aa), ao217, c218, g219, o220, (rMovT lq hx aa)) ⟨(by omega), (by first | exact i1.dro hx14 | exact (i1.mov hx14 hac3.2).1 | exact (i1.new hac3.2).1 | exact i1), (by exact hv221), trivial⟩ (by dsimp only; omega))
    ·
     refine hS.regS [0, 0] [5, 6, 7, 9, 11, 14, 51, 52, 53] fun _ => seg [(131, vb (((ad % 6) : Int) == 5))] [(0, none), (1, none), (2, none), (3, none), (4, none)] [] trivial fun ac wd hS => ?_
     refine hS.condC (((ad % 6) : Int) == 5) (fun hb23o hb23 => ?_) (fun hb23o hb23 => ?_)
     ·
      refine wp_region_seq ?_
      refine hS.opsC 2 [200, 0] [5, 6, 7, 9, 14, 51, 52, 53] fun _ => seg [(134, .agg #[pt b'2 0, vi 16, vi nn]), (135, vu hx)] [(0, none), (1, none), (2, none), (3, none)] [.e (ν7 0), .e (ν7 0), .e (ν7 0)] trivial fun ac wd hS => ?_
      refine hS.call0 86 #[.agg #[pt b'2 0, vi 16, vi nn], vu hx] 136 (h_Get_r b'2 Fx mx 16 nn hx lq _ (hS.mem.res 0) (by exact i1) (by first | assumption | omega | (simp_all; done) | (simp_all; omega))) fun ac wd hS => ?_
      refine hS.opsC 5 [0, 0, 0, 0, 0] [5, 6, 7, 9, 14, 51, 52, 53] fun _ => seg [(15, vi (rGetA lq hx)), (16, vi (rGetE lq hx))] [(0, none), (1, none), (2, none), (3, none)] [] trivial fun ac wd hS => ?_
      refine list_nil_seq ?_
      refine wp_region_seq ?_
      refine hS.opsC 2 [0, 0] [5, 6, 7, 9, 15, 16, 51, 52, 53] fun _ => seg [(140, .slice aoq lq.length cq), (141, vu hx)] [(0, none), (1, none), (2, none), (3, none)] [] trivial fun ac wd hS => ?_
      refine hS.call0 87 #[.slice aoq lq.length cq, vu hx] 142 (r17_Get aoq cq gq oq lq hx _ (hS.mem.get 3 gq (.fn oq (oq + lq.length * 2) (slV (gtD lq) oq))) hvq (by exact i1.ok)) fun ac wd hS => ?_
      refine hS.opsC 5 [0, 0, 0, 0, 0] [5, 6, 7, 9, 15, 16, 51, 52, 53] fun _ => seg [(17, vi (rGetA lq hx)), (18, vi (rGetE lq hx))] [(0, none), (1, none), (2, none), (3, none)] [] trivial fun ac wd hS => ?_
      refine list_nil_seq ?_
      refine wp_seq ?_
      refine hS.regS [0, 0, fx 0 (vb false)] [5, 6, 7, 9, 16, 18, 51, 52, 53] fun _ => seg [(147, vb false)] [(0, none), (1, none), (2, none), (3, none)] [.p ((vb (((rGetA lq hx) : Int) != (rGetA lq hx)) : Value) = vb false)] ⟨(congrArg Value.bool (bne_self_eq_false _)), trivial⟩ fun ac wd hS => ?_
      refine hS.condF ?_
      refine wp_skip ?_
      refine pop_then ?_
      refine hS.regC [0, 0, 0, 0] [5, 6, 7, 9, 51, 52, 53] fun _ => seg [(12, vi (rGetE lq hx)), (13, vi (rGetE lq hx))] [(0, none), (1, none), (2, none), (3, none)] [] trivial fun ac wd hS => ?_
      refine pop_block ?_
      refine pop_then ?_
      refine wp_region_seq ?_
      refine hS.opsC 4 [0, 0, fx 0 (vb false), 0] [5, 6, 7, 9, 51, 52, 53] fun _ => seg [(153, vb false)] [(0, none), (1, none), (2, none), (3, none)] [.p ((vb (((rGetE lq hx) : Int) != (rGetE lq hx)) : Value) = vb false)] ⟨(congrArg Value.bool (bne_self_eq_false _)), trivial⟩ fun ac wd hS => ?_
      refine hS.opsC 2 [201, 1] [5, 6, 7, 9, 51, 52, 53, 153] fun _ => seg [(154, .agg #[pt b'2 0, vi 16, vi nn]), (155, .slice aoq lq.length cq)] [(0, none), (1, none), (2, none), (3, none)] [.t false, .t false, .e (ν7 0), .e (ν7 0), .e (ν7 0)] trivial fun ac wd hS => ?_
      refine hS.callG false 91 #[.agg #[pt b'2 0, vi 16, vi nn], .slice aoq lq.length cq] (l17_told b'2 Fx mx 16 nn aoq cq gq oq lq _ (hS.mem.res 0) (hS.mem.get 0 1 (.fn 0 64 dbT)) (hS.mem.get 3 gq (.fn oq (oq + lq.length * 2) (slV (gtD lq) oq))) hvq (by first | with_reducible assumption | exact i1.dro hx14 | exact (i1.mov hx14 hac3.2).1 | exact (i1.new hac3.2).1 | exact i1)) ?_
      rintro _ wd ⟨rfl, hF⟩
      refine ⟨vb true, rfl, ?_⟩
      replace hS := (hS.to (hS.mem.keep0 hF)).put (d := 156) (v := vb true) (by decide)
      clear hF
      refine hS.opsC 2 [1, 60] [5, 6, 7, 9, 51, 52, 53] fun _ => seg [(158, vb false)] [(0, none), (1, none), (2, none), (3, none)] [.t false, .t false] trivial fun ac wd hS => ?_
      refine list_nil_seq ?_
      refine hS.condF ?_
      refine wp_skip ?_
      refine pop_block ?_
      refine pop_then ?_
      refine hS.regC [20, 0] [5, 6, 7, 9, 51, 52] fun _ => seg [(53, vi (x53 + 1))] [(0, none), (1, none), (2, none), (3, none)] [.p (fit .i64 (x53 + 1))] ⟨fit_i64 (by omega), trivial⟩ fun ac wd hS => ?_
      replace hS := hS.perm (H' := [(1, .fn 0 64 dbT), (g7, .fn o7 (o7 + l.length * 5) (aHV (gtD l) o7)), ((ν7 0), .cells [pt b'2 0, vi 16, vi nn] 158), (gq, .fn oq (oq + lq.length * 2) (slV (gtD lq) oq))]) [0, 1, 2, 3] (by as_aux_lemma => kernel_rfl) (by decide)
      exact pop_then (hS.next ((x53 + 1), Fx, mx, aoq, cq, gq, oq, lq) ⟨(by omega), (by first | exact i1.dro hx14 | exact (i1.mov hx14 hac3.2).1 | exact (i1.new hac3.2).1 | exact i1), (by exact hvq), trivial⟩ (by dsimp only; omega))
     ·
      refine wp_region_seq ?_
      refine hS.opsC 1 [200] [5, 6, 7, 9, 11, 51, 52, 53] fun _ => seg [(64, .agg #[pt b'2 0, vi 16, vi nn])] [(0, none), (1, none), (2, none), (3, none), (4, none)] [.e (ν7 0), .e (ν7 0), .e (ν7 0)] trivial fun ac wd hS => ?_
      refine hS.call0 88 #[.agg #[pt b'2 0, vi 16, vi nn]] 65 (h_Next_r b'2 Fx mx 16 nn lq _ (hS.mem.res 0) (by exact i1)) fun ac wd hS => ?_
      refine hS.opsC 5 [0, 0, 0, 0, 0] [5, 6, 7, 9, 11, 51, 52, 53] fun _ => seg [(19, vu (rNewV lq 1)), (20, vi (rNewE lq 1))] [(0, none), (1, none), (2, none), (3, none), (4, none)] [] trivial fun ac wd hS => ?_
      refine list_nil_seq ?_
      refine wp_region_seq ?_
      refine hS.opsC 1 [0] [5, 6, 7, 9, 11, 19, 20, 51, 52, 53] fun _ => seg [(69, .slice aoq lq.length cq)] [(0, none), (1, none), (2, none), (3, none), (4, none)] [] trivial fun ac wd hS => ?_
      refine hS.callC 89 #[.slice aoq lq.length cq, vi 1] (r17_New aoq cq gq oq lq 1 _ (hS.mem.get 3 gq (.fn oq (oq + lq.length * 2) (slV (gtD lq) oq))) hvq (by exact i1.ok)) ?_
      rintro _ wd ⟨ao224, c225, g226, o227, rfl, hv228, hog0, hoh0, hF⟩
      have ho29 : g226 = gq ∨ w.heap.size ≤ g226 := by have := hS.mem.fr.size; have : w.heap.size ≤ _ := this; omega
      refine ⟨.tuple #[.slice ao224 ((rNewT lq 1).length) c225, vu (rNewV lq 1), vi (rNewE lq 1)], rfl, ?_⟩
      replace hS := (hS.to (hS.mem.outs hF [(g226, .fn o227 (o227 + (rNewT lq 1).length * 2) (slV (gtD (rNewT lq 1)) o227))] ⟨⟨rfl, hoh0, (fun q_ => q_.elim (fun e => .inl ⟨3, .fn oq (oq + lq.length * 2) (slV (gtD lq) oq), by rw [e]; as_aux_lemma => kernel_rfl, rfl⟩) (fun q_ => .inr q_)) hog0⟩, trivial⟩)).put (d := 70) (v := .tuple #[.slice ao224 ((rNewT lq 1).length) c225, vu (rNewV lq 1), vi (rNewE lq 1)]) (by decide)
      clear hF
      refine hS.opsC 7 [0, 0, 0, 0, 0, 0, 0] [5, 6, 7, 9, 11, 19, 20, 51, 52, 53] fun _ => seg [(22, vu (rNewV lq 1)), (23, vi (rNewE lq 1))] [(0, none), (1, none), (2, none), (3, none), (4, none)] [] trivial fun ac wd hS => ?_
      refine list_nil_seq ?_
      refine wp_region_seq ?_
      refine hS.opsC 3 [200, 0, 400] [5, 6, 7, 9, 11, 19, 20, 22, 23, 51, 52, 53] fun _ => seg [(75, .agg #[pt b'2 0, vi 16, vi nn]), (77, vi aa)] [(0, none), (1, none), (2, none), (3, none), (4, none)] [.e (ν13 0), .e (ν7 0), .e (ν7 0), .e (ν7 0)] trivial fun ac wd hS => ?_
      refine hS.callC 90 #[.agg #[pt b'2 0, vi 16, vi nn], vi aa] (h_New_r b'2 Fx mx 16 nn aa lq _ (hS.mem.res 0) (by exact i1) (by first | assumption | omega | (simp_all; done) | (simp_all; omega))) ?_
      rintro _ wd ⟨F30, rfl, hA, hF⟩
      refine ⟨.tuple #[vu (rNewV lq aa), vi (rNewE lq aa)], rfl, ?_⟩
      replace hS := (hS.to (hS.mem.stepA 0 rfl hA hF)).put (d := 78) (v := .tuple #[vu (rNewV lq aa), vi (rNewE lq aa)]) (by decide)
      clear hF
      refine hS.opsC 5 [0, 0, 0, 0, 0] [5, 6, 7, 9, 11, 19, 20, 22, 23, 51, 52, 53] fun _ => seg [(24, vu (rNewV lq aa)), (25, vi (rNewE lq aa))] [(0, none), (1, none), (2, none), (3, none), (4, none)] [] trivial fun ac wd hS => ?_
      refine list_nil_seq ?_
      refine wp_region_seq ?_
      refine hS.opsC 3 [0, 0, 400] [5, 6, 7, 19, 20, 22, 23, 24, 25, 51, 52, 53] fun _ => seg [(82, .slice aoq lq.length cq), (84, vi aa)] [(0, none), (1, none), (2, none), (3, none)] [.e (ν13 0)] trivial fun ac wd hS => ?_
      refine hS.callC 89 #[.slice aoq lq.length cq, vi aa] (r17_New aoq cq gq oq lq aa _ (hS.mem.get 3 gq (.fn oq (oq + lq.length * 2) (slV (gtD lq) oq))) hvq (by exact i1.ok)) ?_
      rintro _ wd ⟨ao231, c232, g233, o234, rfl, hv235, hog0, hoh0, hF⟩
      have ho36 : g233 = gq ∨ w.heap.size ≤ g233 := by have := hS.mem.fr.size; have : w.heap.size ≤ _ := this; omega
      refine ⟨.tuple #[.slice ao231 ((rNewT lq aa).length) c232, vu (rNewV lq aa), vi (rNewE lq aa)], rfl, ?_⟩
      replace hS := (hS.to (hS.mem.outs hF [(g233, .fn o234 (o234 + (rNewT lq aa).length * 2) (slV (gtD (rNewT lq aa)) o234))] ⟨⟨rfl, hoh0, (fun q_ => q_.elim (fun e => .inl ⟨3, .fn oq (oq + lq.length * 2) (slV (gtD lq) oq), by rw [e]; as_aux_lemma => kernel_rfl, rfl⟩) (fun q_ => .inr q_)) hog0⟩, trivial⟩)).put (d := 85) (v := .tuple #[.slice ao231 ((rNewT lq aa).length) c232, vu (rNewV lq aa), vi (rNewE lq aa)]) (by decide)
      clear hF
      refine hS.opsC 7 [0, 0, 0, 0, 0, 0, 0] [5, 6, 7, 19, 20, 22, 23, 24, 25, 51, 52, 53] fun _ => seg [(26, .slice ao231 ((rNewT lq aa).length) c232), (27, vu (rNewV lq aa)), (28, vi (rNewE lq aa))] [(0, none), (1, none), (2, none), (4, none)] [] trivial fun ac wd hS => ?_
      refine list_nil_seq ?_
      refine wp_seq ?_
      refine hS.regS [0, 0, fx 0 (vb false), 0, 1, 1, fx 1 (vb false), 60, 0, 1, 1, fx 1 (vb false), 60] [5, 6, 7, 25, 26, 28, 51, 52, 53] fun _ => seg [(101, vb false)] [(0, none), (1, none), (2, none), (3, none)] [.t false, .t false, .p ((vb (((rNewV lq aa) : Int) != (rNewV lq aa)) : Value) = vb false), .t false, .t false, .t false, .t false, .p ((vb (((rNewE lq 1) : Int) != (rNewE lq 1)) : Value) = vb false), .t false, .t false, .p ((vb (((rNewV lq 1) : Int) != (rNewV lq 1)) : Value) = vb false)] ⟨(congrArg Value.bool (bne_self_eq_false _)), (congrArg Value.bool (bne_self_eq_false _)), (congrArg Value.bool (bne_self_eq_false _)), trivial⟩ fun ac wd hS => ?_
      refine hS.condF ?_
      refine wp_skip ?_
      refine pop_then ?_
      refine hS.regS [0, 0] [5, 6, 7, 25, 28, 51, 52, 53] fun _ => seg [(9, .slice ao231 ((rNewT lq aa).length) c232)] [(0, none), (1, none), (2, none), (3, none)] [] trivial fun ac wd hS => ?_
      refine hS.regC [0, 0, 0, 0] [5, 6, 7, 9, 51, 52, 53] fun _ => seg [(12, vi (rNewE lq aa)), (13, vi (rNewE lq aa))] [(0, none), (1, none), (2, none), (3, none)] [] trivial fun ac wd hS => ?_
      refine pop_block ?_
      refine pop_then ?_
      refine wp_region_seq ?_
      refine hS.opsC 4 [0, 0, fx 0 (vb false), 0] [5, 6, 7, 9, 51, 52, 53] fun _ => seg [(153, vb false)] [(0, none), (1, none), (2, none), (3, none)] [.p ((vb (((rNewE lq aa) : Int) != (rNewE lq aa)) : Value) = vb false)] ⟨(congrArg Value.bool (bne_self_eq_false _)), trivial⟩ fun ac wd hS => ?_
      refine hS.opsC 2 [201, 1] [5, 6, 7, 9, 51, 52, 53, 153] fun _ => seg [(154, .agg #[pt b'2 0, vi 16, vi nn]), (155, .slice ao231 ((rNewT lq aa).length) c232)] [(0, none), (1, none), (2, none), (3, none)] [.t false, .t false, .e (ν7 0), .e (ν7 0), .e (ν7 0)] trivial fun ac wd hS => ?_
      refine hS.callG false 91 #[.agg #[pt b'2 0, vi 16, vi nn], .slice ao231 ((rNewT lq aa).length) c232] (l17_told b'2 F30 (hNwM mx 16 nn aa) 16 nn ao231 c232 g233 o234 (rNewT lq aa) _ (hS.mem.res 0) (hS.mem.get 0 1 (.fn 0 64 dbT)) (hS.mem.get 3 g233 (.fn o234 (o234 + (rNewT lq aa).length * 2) (slV (gtD (rNewT lq aa)) o234))) hv235 (by first | with_reducible assumption | exact i1.dro hx14 | exact (i1.mov hx14 hac3.2).1 | exact (i1.new hac3.2).1 | exact i1)) ?_
      rintro _ wd ⟨rfl, hF⟩
      refine ⟨vb true, rfl, ?_⟩
      replace hS := (hS.to (hS.mem.keep0 hF)).put (d := 156) (v := vb true) (by decide)
      clear hF
      refine hS.opsC 2 [1, 60] [5, 6, 7, 9, 51, 52, 53] fun _ => seg [(158, vb false)] [(0, none), (1, none), (2, none), (3, none)] [.t false, .t false] trivial fun ac wd hS => ?_
      refine list_nil_seq ?_
      refine hS.condF ?_
      refine wp_skip ?_
      refine pop_block ?_
      refine pop_then ?_
      refine hS.regC [20, 0] [5, 6, 7, 9, 51, 52] fun _ => seg [(53, vi (x53 + 1))] [(0, none), (1, none), (2, none), (3, none)] [.p (fit .i64 (x53 + 1))] ⟨fit_i64 (by omega), trivial⟩ fun ac wd hS => ?_
      replace hS := hS.perm (H' := [(1, .fn 0 64 dbT), (g7, .fn o7 (o7 + l.length * 5) (aHV (gtD l) o7)), ((ν7 0), .cells [pt b'2 0, vi 16, vi nn] 158), (g233, .fn o234 (o234 + (rNewT lq aa).length * 2) (slV (gtD (rNewT lq aa)) o234))]) [0, 1, 2, 3] (by as_aux_lemma => kernel_rfl) (by decide)
      exact pop_then (hS.next ((x53 + 1), F30, (hNwM mx 16 nn aa), ao231, c232, g233, o234, (rNewT lq aa)) ⟨(by omega), (by first | exact i1.dro hx14 | exact (i1.mov hx14 hac3.2).1 | exact (i1.new hac3.2).1 | exact i1), (by exact hv235), trivial⟩ (by dsimp only; omega))
  ·
   refine wp_exit ?_
   refine pop_then_exit ?_
   refine pop_then_exit ?_
   refine pop_block_hit ?_
   refine pop_then ?_
   refine wp_region_seq ?_
   refine hS.opsC 1 [0] [5, 9] fun _ => seg [(161, pt b'2 0)] [(0, none), (3, none)] [] trivial fun ac wd hS => ?_
   refine hS.callC 29 #[pt b'2 0] (ar_Clone b'2 Fx mx _ (hS.mem.res 0) ) ?_
   rintro _ wd ⟨b'37, F38, rfl, hN, hF⟩
   refine ⟨pt b'37 0, rfl, ?_⟩
   replace hS := (hS.to (hS.mem.stepA 0 (r' := arR b'37 F38 mx) rfl hN hF)).put (d := 162) (v := pt b'37 0) (by decide)
   clear hF
   refine hS.opsC 1 [0] [9, 162] fun _ => seg [(163, vi nn)] [(0, none), (1, none)] [] trivial fun ac wd hS => ?_
   refine hS.call0 28 #[pt b'37 0, vi 16, vi nn] 164 (vw_Of b'37 F38 mx 16 nn _ (hS.mem.res 0) (by exact i1.there)) fun ac wd hS => ?_
   refine hS.opsC 6 [0, 0, 0, 0, 200, 0] [9] fun ν64 => seg [(29, pt (ν64 0) 0), (30, vi 0)] [(0, none), (1, none), (2, some ((ν64 0), .cells [pt b'37 0, vi 16, vi nn] 25))] [.e (ν64 0), .e (ν64 0), .e (ν64 0)] trivial fun ac wd hS => ?_
   refine list_nil_seq ?_
   refine wp_region_seq ?_
   refine hS.opsC 3 [0, 0, 0] [9, 29] fun _ => seg [(169, vb true)] [(0, none), (1, none), (2, none)] [] trivial fun ac wd hS => ?_
   refine hS.opsC 1 [201] [9, 169] fun _ => seg [(170, .agg #[pt b'37 0, vi 16, vi nn])] [(0, none), (1, none)] [.t true, .e (ν64 0), .e (ν64 0), .e (ν64 0)] trivial fun ac wd hS => ?_
   refine hS.callG true 92 #[.agg #[pt b'37 0, vi 16, vi nn]] (h_Open b'37 16 nn _  ) ?_
   rintro _ wd ⟨rfl, hF⟩
   refine ⟨.agg #[pt b'37 0, vi 16, vi nn], rfl, ?_⟩
   replace hS := (hS.to (hS.mem.keep0 hF)).put (d := 171) (v := .agg #[pt b'37 0, vi 16, vi nn]) (by decide)
   clear hF
   refine hS.opsC 1 [1] [169, 171] fun _ => seg [(172, .slice aoq lq.length cq)] [(0, none), (1, none)] [.t true] trivial fun ac wd hS => ?_
   refine hS.callG true 91 #[.agg #[pt b'37 0, vi 16, vi nn], .slice aoq lq.length cq] (l17_told b'37 F38 mx 16 nn aoq cq gq oq lq _ (hS.mem.res 0) (hS.mem.get 0 1 (.fn 0 64 dbT)) (hS.mem.get 1 gq (.fn oq (oq + lq.length * 2) (slV (gtD lq) oq))) hvq (by first | with_reducible assumption | exact i1.dro hx14 | exact (i1.mov hx14 hac3.2).1 | exact (i1.new hac3.2).1 | exact i1)) ?_
   rintro _ wd ⟨rfl, hF⟩
   refine ⟨vb true, rfl, ?_⟩
   replace hS := (hS.to (hS.mem.keep0 hF)).put (d := 173) (v := vb true) (by decide)
   clear hF
   refine hS.opsC 2 [70, 0] [] fun _ => seg [(4, vb true)] [(0, none)] [.t true] trivial fun ac wd hS => ?_
   refine list_nil_seq ?_
   refine wp_ret ?_
   refine St.retC 0 hS (vb true) [] trivial fun hw => ?_
   refine ⟨retd rfl, hw.fr0⟩

end Go.Proofs.YtindbpffbjhfaaaDoor.K
