import Derived.Test.YtdjdgdkkhadkoaaDoorBtW1
import Derived.Test.YtdjdgdkkhadkoaaDoorBtW2
import Derived.Test.YtdjdgdkkhadkoaaDoorBtW3
import Derived.Test.YtdjdgdkkhadkoaaDoorBtW4
import Derived.Test.YtdjdgdkkhadkoaaDoorBtW5
import Derived.Test.YtdjdgdkkhadkoaaDoorBtW6
import Derived.Test.YtdjdgdkkhadkoaaDoorRx
import Derived.Test.YtdjdgdkkhadkoaaDoorBu
import Derived.Test.YtdjdgdkkhadkoaaDoorBt
import Derived.Test.YtdjdgdkkhadkoaaDoorKg
import Derived.Test.YtdjdgdkkhadkoaaDoorProg
namespace Go.Proofs.YtdjdgdkkhadkoaaDoor.K
set_option linter.unusedVariables false
set_option linter.unusedSimpArgs false

set_option maxRecDepth 100000 in
set_option maxHeartbeats 1000000 in
theorem bits_Ones (x : Nat) (w : World) :
    Calls Tryd.prog 31 #[.int .u64 ((x : Nat) : Int)] w fun e w' => e = .returned (.int .i64 (pcI ((x : Nat) : Int))) ∧ Fr w w' [] [] := by
  refine enter (args := [.int .u64 ((x : Nat) : Int)]) (A := []) Tryd.func31 rfl 35 rfl [] (WS.start (AllAr.nil w)) fun ac hS => ?_
  refine St.region_seq [⟨0, 0, 0⟩] [0] [] hS fun _ => ⟨[(0, [], .int .u64 ((x : Nat) : Int))], [], [], by as_aux_lemma => kernel_rfl, trivial, fun ac wd hS => ?_⟩
  have ew1 : (IntKind.wrap .u64 ((iand .u64 (Int.fdiv ((x : Nat) : Int) (2 ^ 1)) 6148914691236517205) + (iand .u64 ((x : Nat) : Int) 6148914691236517205))) = (pc1 ((x : Nat) : Int)) := rfl
  refine St.region_seq [⟨0, 0, 0⟩, ⟨0, 0, 0⟩, ⟨0, 0, 0⟩, ⟨0, 0, 0⟩, ⟨0, 0, 0⟩, ⟨0, 0, 0⟩, ⟨0, 0, 0⟩] [0] [] hS fun _ => ⟨[(0, [], .int .u64 (IntKind.wrap .u64 ((iand .u64 (Int.fdiv ((x : Nat) : Int) (2 ^ 1)) 6148914691236517205) + (iand .u64 ((x : Nat) : Int) 6148914691236517205))))], [], [], by as_aux_lemma => kernel_rfl, trivial, fun ac wd hS => ?_⟩
  simp only [ew1] at hS
  have ew2 : (IntKind.wrap .u64 ((iand .u64 (Int.fdiv (pc1 ((x : Nat) : Int)) (2 ^ 2)) 3689348814741910323) + (iand .u64 (pc1 ((x : Nat) : Int)) 3689348814741910323))) = (pc2 (pc1 ((x : Nat) : Int))) := rfl
  refine St.region_seq [⟨0, 0, 0⟩, ⟨0, 0, 0⟩, ⟨0, 0, 0⟩, ⟨0, 0, 0⟩, ⟨0, 0, 0⟩, ⟨0, 0, 0⟩, ⟨0, 0, 0⟩] [0] [] hS fun _ => ⟨[(0, [], .int .u64 (IntKind.wrap .u64 ((iand .u64 (Int.fdiv (pc1 ((x : Nat) : Int)) (2 ^ 2)) 3689348814741910323) + (iand .u64 (pc1 ((x : Nat) : Int)) 3689348814741910323))))], [], [], by as_aux_lemma => kernel_rfl, trivial, fun ac wd hS => ?_⟩
  simp only [ew2] at hS
  have ew3 : (iand .u64 (IntKind.wrap .u64 ((Int.fdiv (pc2 (pc1 ((x : Nat) : Int))) (2 ^ 4)) + (pc2 (pc1 ((x : Nat) : Int))))) 1085102592571150095) = (pc3 (pc2 (pc1 ((x : Nat) : Int)))) := rfl
  refine St.region_seq [⟨0, 0, 0⟩, ⟨0, 0, 0⟩, ⟨0, 0, 0⟩, ⟨0, 0, 0⟩, ⟨0, 0, 0⟩, ⟨0, 0, 0⟩] [0] [] hS fun _ => ⟨[(0, [], .int .u64 (iand .u64 (IntKind.wrap .u64 ((Int.fdiv (pc2 (pc1 ((x : Nat) : Int))) (2 ^ 4)) + (pc2 (pc1 ((x : Nat) : Int))))) 1085102592571150095))], [], [], by as_aux_lemma => kernel_rfl, trivial, fun ac wd hS => ?_⟩
  simp only [ew3] at hS
  have ew4 : (IntKind.wrap .u64 ((pc3 (pc2 (pc1 ((x : Nat) : Int)))) + (Int.fdiv (pc3 (pc2 (pc1 ((x : Nat) : Int)))) (2 ^ 8)))) = (pc4 8 (pc3 (pc2 (pc1 ((x : Nat) : Int))))) := rfl
  refine St.region_seq [⟨0, 0, 0⟩, ⟨0, 0, 0⟩, ⟨0, 0, 0⟩, ⟨0, 0, 0⟩, ⟨0, 0, 0⟩] [0] [] hS fun _ => ⟨[(0, [], .int .u64 (IntKind.wrap .u64 ((pc3 (pc2 (pc1 ((x : Nat) : Int)))) + (Int.fdiv (pc3 (pc2 (pc1 ((x : Nat) : Int)))) (2 ^ 8)))))], [], [], by as_aux_lemma => kernel_rfl, trivial, fun ac wd hS => ?_⟩
  simp only [ew4] at hS
  have ew5 : (IntKind.wrap .u64 ((pc4 8 (pc3 (pc2 (pc1 ((x : Nat) : Int))))) + (Int.fdiv (pc4 8 (pc3 (pc2 (pc1 ((x : Nat) : Int))))) (2 ^ 16)))) = (pc4 16 (pc4 8 (pc3 (pc2 (pc1 ((x : Nat) : Int)))))) := rfl
  refine St.region_seq [⟨0, 0, 0⟩, ⟨0, 0, 0⟩, ⟨0, 0, 0⟩, ⟨0, 0, 0⟩, ⟨0, 0, 0⟩] [0] [] hS fun _ => ⟨[(0, [], .int .u64 (IntKind.wrap .u64 ((pc4 8 (pc3 (pc2 (pc1 ((x : Nat) : Int))))) + (Int.fdiv (pc4 8 (pc3 (pc2 (pc1 ((x : Nat) : Int))))) (2 ^ 16)))))], [], [], by as_aux_lemma => kernel_rfl, trivial, fun ac wd hS => ?_⟩
  simp only [ew5] at hS
  have ew6 : (IntKind.wrap .u64 ((pc4 16 (pc4 8 (pc3 (pc2 (pc1 ((x : Nat) : Int)))))) + (Int.fdiv (pc4 16 (pc4 8 (pc3 (pc2 (pc1 ((x : Nat) : Int)))))) (2 ^ 32)))) = (pc4 32 (pc4 16 (pc4 8 (pc3 (pc2 (pc1 ((x : Nat) : Int))))))) := rfl
  refine St.region_seq [⟨0, 0, 0⟩, ⟨0, 0, 0⟩, ⟨0, 0, 0⟩, ⟨0, 0, 0⟩, ⟨0, 0, 0⟩] [0] [] hS fun _ => ⟨[(0, [], .int .u64 (IntKind.wrap .u64 ((pc4 16 (pc4 8 (pc3 (pc2 (pc1 ((x : Nat) : Int)))))) + (Int.fdiv (pc4 16 (pc4 8 (pc3 (pc2 (pc1 ((x : Nat) : Int)))))) (2 ^ 32)))))], [], [], by as_aux_lemma => kernel_rfl, trivial, fun ac wd hS => ?_⟩
  simp only [ew6] at hS
  refine St.region_seq [⟨0, 0, 0⟩, ⟨0, 0, 0⟩, ⟨0, 0, 0⟩, ⟨0, 0, 0⟩] [2] [] hS fun _ => ⟨[(2, [], .int .i64 (iand .i64 (IntKind.wrap .i64 (pc4 32 (pc4 16 (pc4 8 (pc3 (pc2 (pc1 ((x : Nat) : Int)))))))) 127))], [], [], by as_aux_lemma => kernel_rfl, trivial, fun ac wd hS => ?_⟩
  refine wp_ret ?_
  refine St.ret 0 hS (v := .int .i64 (iand .i64 (IntKind.wrap .i64 (pc4 32 (pc4 16 (pc4 8 (pc3 (pc2 (pc1 ((x : Nat) : Int)))))))) 127)) (obs := []) (by as_aux_lemma => kernel_rfl) trivial fun hw => ?_
  refine ⟨retd (vint ?_), hw.fr⟩
  all_goals (rfl)

set_option maxRecDepth 100000 in
set_option maxHeartbeats 1000000 in
theorem slices_EqualW (g1 : Nat) (o1 : Nat) (c1 : Nat) (nw1 : Nat) (ws1 : Nat → Nat) (g2 : Nat) (o2 : Nat) (c2 : Nat) (nw2 : Nat) (ws2 : Nat → Nat) (w : World) (hh0 : HE.holds w g1 (.fn o1 (o1 + nw1) (u64s ws1 o1))) (hh1 : HE.holds w g2 (.fn o2 (o2 + nw2) (u64s ws2 o2))) (hl : nw1 ≤ 4611686018427387904) :
    Calls Tryd.prog 27 #[.slice (some ⟨g1, o1, none⟩) nw1 c1, .slice (some ⟨g2, o2, none⟩) nw2 c2] w fun e w' => e = .returned (.bool (eqW nw1 nw2 ws1 ws2)) ∧ Fr w w' [] [] := by
  refine enter (args := [.slice (some ⟨g1, o1, none⟩) nw1 c1, .slice (some ⟨g2, o2, none⟩) nw2 c2]) (A := []) Tryd.func27 rfl 26 rfl [(g1, .fn o1 (o1 + nw1) (u64s ws1 o1)), (g2, .fn o2 (o2 + nw2) (u64s ws2 o2))] (WS.startL ⟨⟨rfl, hh0⟩, ⟨rfl, hh1⟩, trivial⟩) fun ac hS => ?_
  refine St.region_seq [⟨0, 0, 0⟩] [0, 1] [0, 1] hS fun _ => ⟨[(0, [], .slice (some ⟨g1, o1, none⟩) nw1 c1), (1, [], .slice (some ⟨g2, o2, none⟩) nw2 c2)], [(g1, .fn o1 (o1 + nw1) (u64s ws1 o1)), (g2, .fn o2 (o2 + nw2) (u64s ws2 o2))], [], by as_aux_lemma => kernel_rfl, trivial, fun ac wd hS => ?_⟩
  refine wp_seq ?_
  refine St.region_seq [⟨0, 0, 0⟩, ⟨0, 0, 0⟩, ⟨0, 0, 0⟩, ⟨0, 0, 0⟩, ⟨0, 0, 0⟩] [0, 1, 10] [0, 1] hS fun _ => ⟨[(0, [], .slice (some ⟨g1, o1, none⟩) nw1 c1), (1, [], .slice (some ⟨g2, o2, none⟩) nw2 c2), (10, [], .bool ((((nw1 : Nat) : Int) : Int) != ((nw2 : Nat) : Int)))], [(g1, .fn o1 (o1 + nw1) (u64s ws1 o1)), (g2, .fn o2 (o2 + nw2) (u64s ws2 o2))], [], by as_aux_lemma => kernel_rfl, trivial, fun ac wd hS => ?_⟩
  refine St.cond (b := ((((nw1 : Nat) : Int) : Int) != ((nw2 : Nat) : Int))) hS (by as_aux_lemma => kernel_rfl) (fun hb1 => ?_) (fun hb1 => ?_)
  · have hb1o := hb1
    try simp only [decide_eq_true_eq, decide_eq_false_iff_not, beq_iff_eq, bne_iff_ne, beq_eq_false_iff_ne, bne_eq_false_iff_eq, Bool.and_eq_true, Bool.or_eq_true, Bool.and_eq_false_iff, Bool.or_eq_false_iff, Bool.not_eq_true', Bool.not_eq_false', ne_eq, Int.not_lt, Int.not_le, Bool.true_and, Bool.false_and, Bool.and_true, Bool.and_false, Bool.or_true, Bool.or_false, Bool.true_or, Bool.false_or, Bool.not_true, Bool.not_false] at hb1
    refine St.region_seq [⟨0, 0, 0⟩] [4] [] hS fun _ => ⟨[(4, [], .bool false)], [], [], by as_aux_lemma => kernel_rfl, trivial, fun ac wd hS => ?_⟩
    refine wp_ret ?_
    refine pop_then_ret ?_
    refine St.ret 0 hS (v := .bool false) (obs := []) (by as_aux_lemma => kernel_rfl) trivial fun hw => ?_
    refine ⟨retd (vbool ?_), hw.fr⟩
    all_goals (first | exact eqW_len (by omega) | exact eqW_at (x := x13) (by omega) (by assumption) | exact eqW_all (by omega) (fun j hj => i2 j (by omega)))
  · have hb1o := hb1
    try simp only [decide_eq_true_eq, decide_eq_false_iff_not, beq_iff_eq, bne_iff_ne, beq_eq_false_iff_ne, bne_eq_false_iff_eq, Bool.and_eq_true, Bool.or_eq_true, Bool.and_eq_false_iff, Bool.or_eq_false_iff, Bool.not_eq_true', Bool.not_eq_false', ne_eq, Int.not_lt, Int.not_le, Bool.true_and, Bool.false_and, Bool.and_true, Bool.and_false, Bool.or_true, Bool.or_false, Bool.true_or, Bool.false_or, Bool.not_true, Bool.not_false] at hb1
    refine wp_skip ?_
    refine pop_then ?_
    refine wp_seq ?_
    refine St.region_seq [⟨0, 0, 0⟩, ⟨0, 0, 0⟩, ⟨0, 0, 0⟩] [0, 1, 12, 13] [0, 1] hS fun _ => ⟨[(0, [], .slice (some ⟨g1, o1, none⟩) nw1 c1), (1, [], .slice (some ⟨g2, o2, none⟩) nw2 c2), (12, [], .int .i64 ((nw1 : Nat) : Int)), (13, [], .int .i64 0)], [(g1, .fn o1 (o1 + nw1) (u64s ws1 o1)), (g2, .fn o2 (o2 + nw2) (u64s ws2 o2))], [], by as_aux_lemma => kernel_rfl, trivial, fun ac wd hS => ?_⟩
    refine wp_block ?_
    refine St.loop (σ := Int) (fun (x : Int) => match x with | x13 => [(0, [], .slice (some ⟨g1, o1, none⟩) nw1 c1), (1, [], .slice (some ⟨g2, o2, none⟩) nw2 c2), (12, [], .int .i64 ((nw1 : Nat) : Int)), (13, [], .int .i64 x13)]) (fun (x : Int) => match x with | x13 => [(g1, .fn o1 (o1 + nw1) (u64s ws1 o1)), (g2, .fn o2 (o2 + nw2) (u64s ws2 o2))]) (fun (x : Int) => match x with | x13 => []) (fun (x : Int) => match x with | x13 => (0 ≤ x13) ∧ (x13 ≤ (nw1 : Int)) ∧ (∀ j, j < Int.toNat x13 → ws1 j = ws2 j)) (fun (x : Int) => match x with | x13 => nw1 - Int.toNat x13) 0 ⟨(by first | omega | (intro j hj; exact absurd hj (by simp))), (by first | omega | (intro j hj; exact absurd hj (by simp))), (by first | omega | (intro j hj; exact absurd hj (by simp)))⟩ hS ?_
    clear hS
    rintro x13 ⟨i0, i1, i2⟩ ac wd hS
    replace hS : St _ 26 [(0, [], .slice (some ⟨g1, o1, none⟩) nw1 c1), (1, [], .slice (some ⟨g2, o2, none⟩) nw2 c2), (12, [], .int .i64 ((nw1 : Nat) : Int)), (13, [], .int .i64 x13)] [(g1, .fn o1 (o1 + nw1) (u64s ws1 o1)), (g2, .fn o2 (o2 + nw2) (u64s ws2 o2))] [] ac wd := hS
    replace i0 : 0 ≤ x13 := i0
    replace i1 : x13 ≤ (nw1 : Int) := i1
    replace i2 : ∀ j, j < Int.toNat x13 → ws1 j = ws2 j := i2
    refine St.region_seq [⟨0, 0, 0⟩] [0, 1, 12, 13, 14] [0, 1] hS fun _ => ⟨[(0, [], .slice (some ⟨g1, o1, none⟩) nw1 c1), (1, [], .slice (some ⟨g2, o2, none⟩) nw2 c2), (12, [], .int .i64 ((nw1 : Nat) : Int)), (13, [], .int .i64 x13), (14, [], .bool (decide ((x13 : Int) < ((nw1 : Nat) : Int))))], [(g1, .fn o1 (o1 + nw1) (u64s ws1 o1)), (g2, .fn o2 (o2 + nw2) (u64s ws2 o2))], [], by as_aux_lemma => kernel_rfl, trivial, fun ac wd hS => ?_⟩
    refine wp_seq ?_
    refine St.cond (b := (decide ((x13 : Int) < ((nw1 : Nat) : Int)))) hS (by as_aux_lemma => kernel_rfl) (fun hb2 => ?_) (fun hb2 => ?_)
    · have hb2o := hb2
      try simp only [decide_eq_true_eq, decide_eq_false_iff_not, beq_iff_eq, bne_iff_ne, beq_eq_false_iff_ne, bne_eq_false_iff_eq, Bool.and_eq_true, Bool.or_eq_true, Bool.and_eq_false_iff, Bool.or_eq_false_iff, Bool.not_eq_true', Bool.not_eq_false', ne_eq, Int.not_lt, Int.not_le, Bool.true_and, Bool.false_and, Bool.and_true, Bool.and_false, Bool.or_true, Bool.or_false, Bool.true_or, Bool.false_or, Bool.not_true, Bool.not_false] at hb2
      refine wp_skip ?_
      refine pop_then ?_
      refine wp_seq ?_
      refine wp_block ?_
      refine St.region_seq [⟨0, 0, 0⟩, ⟨0, 0, 0⟩] [0, 1, 5, 12, 13] [0, 1] hS fun _ => ⟨[(0, [], .slice (some ⟨g1, o1, none⟩) nw1 c1), (1, [], .slice (some ⟨g2, o2, none⟩) nw2 c2), (5, [], .int .i64 x13), (12, [], .int .i64 ((nw1 : Nat) : Int)), (13, [], .int .i64 x13)], [(g1, .fn o1 (o1 + nw1) (u64s ws1 o1)), (g2, .fn o2 (o2 + nw2) (u64s ws2 o2))], [], by as_aux_lemma => kernel_rfl, trivial, fun ac wd hS => ?_⟩
      have ew3 : ((ws1 (o1 + Int.toNat x13 * 1 - o1) : Nat) : Int) = ((ws1 (Int.toNat x13) : Nat) : Int) := by rw [Nat.mul_one, Nat.add_sub_cancel_left]
      have ew4 : ((ws2 (o2 + Int.toNat x13 * 1 - o2) : Nat) : Int) = ((ws2 (Int.toNat x13) : Nat) : Int) := by rw [Nat.mul_one, Nat.add_sub_cancel_left]
      refine St.quiet_seq [⟨0, 0, 0⟩, ⟨0, 0, 0⟩, ⟨0, 2, 0⟩, ⟨0, 0, 0⟩, ⟨0, 0, 0⟩, ⟨0, 0, 0⟩, ⟨0, 2, 0⟩, ⟨0, 0, 1⟩, ⟨0, 0, 0⟩] [0, 1, 12, 13, 24] [0, 1] hS (by kernel_rfl) (by kernel_rfl) (E' := [(0, [], .slice (some ⟨g1, o1, none⟩) nw1 c1), (1, [], .slice (some ⟨g2, o2, none⟩) nw2 c2), (12, [], .int .i64 ((nw1 : Nat) : Int)), (13, [], .int .i64 x13), (24, [], .bool ((((ws1 (o1 + Int.toNat x13 * 1 - o1) : Nat) : Int) : Int) != ((ws2 (o2 + Int.toNat x13 * 1 - o2) : Nat) : Int)))]) (H' := [(g1, .fn o1 (o1 + nw1) (u64s ws1 o1)), (g2, .fn o2 (o2 + nw2) (u64s ws2 o2))]) (obs := [g2 = g2, o2 ≤ o2 + Int.toNat x13 * 1 ∧ o2 + Int.toNat x13 * 1 < (o2 + nw2), 0 ≤ x13 ∧ x13 < ((nw2 : Nat) : Int), g1 = g1, o1 ≤ o1 + Int.toNat x13 * 1 ∧ o1 + Int.toNat x13 * 1 < (o1 + nw1), 0 ≤ x13 ∧ x13 < ((nw1 : Nat) : Int)]) (by as_aux_lemma => kernel_rfl) (⟨rfl, (by (try simp only [ew3, ew4]); first | omega | (intro _; exact ⟨rfl, trivial⟩) | (simp; omega) | (simp_all; done) | (simp_all; omega)), (by (try simp only [ew3, ew4]); first | omega | (intro _; exact ⟨rfl, trivial⟩) | (simp; omega) | (simp_all; done) | (simp_all; omega)), rfl, (by (try simp only [ew3, ew4]); first | omega | (intro _; exact ⟨rfl, trivial⟩) | (simp; omega) | (simp_all; done) | (simp_all; omega)), (by (try simp only [ew3, ew4]); first | omega | (intro _; exact ⟨rfl, trivial⟩) | (simp; omega) | (simp_all; done) | (simp_all; omega)), trivial⟩ : AllP [g2 = g2, o2 ≤ o2 + Int.toNat x13 * 1 ∧ o2 + Int.toNat x13 * 1 < (o2 + nw2), 0 ≤ x13 ∧ x13 < ((nw2 : Nat) : Int), g1 = g1, o1 ≤ o1 + Int.toNat x13 * 1 ∧ o1 + Int.toNat x13 * 1 < (o1 + nw1), 0 ≤ x13 ∧ x13 < ((nw1 : Nat) : Int)]) fun ac wd hS => ?_
      simp only [ew3, ew4] at hS
      refine St.cond (b := ((((ws1 (Int.toNat x13) : Nat) : Int) : Int) != ((ws2 (Int.toNat x13) : Nat) : Int))) hS (by as_aux_lemma => kernel_rfl) (fun hb5 => ?_) (fun hb5 => ?_)
      · have hb5o := hb5
        try simp only [decide_eq_true_eq, decide_eq_false_iff_not, beq_iff_eq, bne_iff_ne, beq_eq_false_iff_ne, bne_eq_false_iff_eq, Bool.and_eq_true, Bool.or_eq_true, Bool.and_eq_false_iff, Bool.or_eq_false_iff, Bool.not_eq_true', Bool.not_eq_false', ne_eq, Int.not_lt, Int.not_le, Bool.true_and, Bool.false_and, Bool.and_true, Bool.and_false, Bool.or_true, Bool.or_false, Bool.true_or, Bool.false_or, Bool.not_true, Bool.not_false] at hb5
        refine St.region_seq [⟨0, 0, 0⟩] [4] [] hS fun _ => ⟨[(4, [], .bool false)], [], [], by as_aux_lemma => kernel_rfl, trivial, fun ac wd hS => ?_⟩
        refine wp_ret ?_
        refine pop_block_ret ?_
        refine pop_then_ret ?_
        refine pop_then_ret ?_
        refine pop_block_ret ?_
        refine pop_then_ret ?_
        refine St.ret 0 hS (v := .bool false) (obs := []) (by as_aux_lemma => kernel_rfl) trivial fun hw => ?_
        refine ⟨retd (vbool ?_), hw.fr⟩
        all_goals (first | exact eqW_len (by omega) | exact eqW_at (x := x13) (by omega) (by assumption) | exact eqW_all (by omega) (fun j hj => i2 j (by omega)))
      · have hb5o := hb5
        try simp only [decide_eq_true_eq, decide_eq_false_iff_not, beq_iff_eq, bne_iff_ne, beq_eq_false_iff_ne, bne_eq_false_iff_eq, Bool.and_eq_true, Bool.or_eq_true, Bool.and_eq_false_iff, Bool.or_eq_false_iff, Bool.not_eq_true', Bool.not_eq_false', ne_eq, Int.not_lt, Int.not_le, Bool.true_and, Bool.false_and, Bool.and_true, Bool.and_false, Bool.or_true, Bool.or_false, Bool.true_or, Bool.false_or, Bool.not_true, Bool.not_false] at hb5
        refine wp_skip ?_
        refine pop_block ?_
        refine pop_then ?_
        have ew6 : (IntKind.wrap .i64 (x13 + 1)) = (x13 + 1) := i64_in (x := (x13 + 1)) (by omega)
        refine St.region [⟨0, 0, 0⟩, ⟨0, 0, 0⟩] [0, 1, 12, 13] [0, 1] hS fun _ => ⟨[(0, [], .slice (some ⟨g1, o1, none⟩) nw1 c1), (1, [], .slice (some ⟨g2, o2, none⟩) nw2 c2), (12, [], .int .i64 ((nw1 : Nat) : Int)), (13, [], .int .i64 (IntKind.wrap .i64 (x13 + 1)))], [(g1, .fn o1 (o1 + nw1) (u64s ws1 o1)), (g2, .fn o2 (o2 + nw2) (u64s ws2 o2))], [], by as_aux_lemma => kernel_rfl, trivial, fun ac wd hS => ?_⟩
        simp only [ew6] at hS
        exact pop_then ⟨(x13 + 1), ⟨(by first | omega | assumption | (simp; done) | (simp; omega)), (by first | omega | assumption | (simp; done) | (simp; omega)), (by intro j hj; rcases Nat.lt_or_ge j (Int.toNat x13) with h | h; exact i2 j h; (obtain rfl : j = Int.toNat x13 := by omega); omega)⟩, (by first | omega | (simp; omega) | (simp only []; omega)), hS⟩
    · have hb2o := hb2
      try simp only [decide_eq_true_eq, decide_eq_false_iff_not, beq_iff_eq, bne_iff_ne, beq_eq_false_iff_ne, bne_eq_false_iff_eq, Bool.and_eq_true, Bool.or_eq_true, Bool.and_eq_false_iff, Bool.or_eq_false_iff, Bool.not_eq_true', Bool.not_eq_false', ne_eq, Int.not_lt, Int.not_le, Bool.true_and, Bool.false_and, Bool.and_true, Bool.and_false, Bool.or_true, Bool.or_false, Bool.true_or, Bool.false_or, Bool.not_true, Bool.not_false] at hb2
      refine wp_exit ?_
      refine pop_then_exit ?_
      refine pop_then_exit ?_
      refine pop_block_hit ?_
      refine pop_then ?_
      refine St.region_seq [⟨0, 0, 0⟩] [4] [] hS fun _ => ⟨[(4, [], .bool true)], [], [], by as_aux_lemma => kernel_rfl, trivial, fun ac wd hS => ?_⟩
      refine wp_ret ?_
      refine St.ret 0 hS (v := .bool true) (obs := []) (by as_aux_lemma => kernel_rfl) trivial fun hw => ?_
      refine ⟨retd (vbool ?_), hw.fr⟩
      all_goals (first | exact eqW_len (by omega) | exact eqW_at (x := x13) (by omega) (by assumption) | exact eqW_all (by omega) (fun j hj => i2 j (by omega)))

set_option maxRecDepth 100000 in
set_option maxHeartbeats 1000000 in
theorem bits_Same (g1 : Nat) (o1 : Nat) (c1 : Nat) (nw1 : Nat) (ws1 : Nat → Nat) (n1 : Nat) (g2 : Nat) (o2 : Nat) (c2 : Nat) (nw2 : Nat) (ws2 : Nat → Nat) (n2 : Nat) (w : World) (hh0 : HE.holds w g1 (.fn o1 (o1 + nw1) (u64s ws1 o1))) (hh1 : HE.holds w g2 (.fn o2 (o2 + nw2) (u64s ws2 o2))) (hl : nw1 ≤ 4611686018427387904) :
    Calls Tryd.prog 14 #[.agg #[.int .i64 ((n1 : Nat) : Int), .slice (some ⟨g1, o1, none⟩) nw1 c1], .agg #[.int .i64 ((n2 : Nat) : Int), .slice (some ⟨g2, o2, none⟩) nw2 c2]] w fun e w' => e = .returned (.bool ((((n1 : Nat) : Int) == ((n2 : Nat) : Int)) && eqW nw1 nw2 ws1 ws2)) ∧ Fr w w' [] [] := by
  refine enter (args := [.agg #[.int .i64 ((n1 : Nat) : Int), .slice (some ⟨g1, o1, none⟩) nw1 c1], .agg #[.int .i64 ((n2 : Nat) : Int), .slice (some ⟨g2, o2, none⟩) nw2 c2]]) (A := []) Tryd.func14 rfl 17 rfl [(g1, .fn o1 (o1 + nw1) (u64s ws1 o1)), (g2, .fn o2 (o2 + nw2) (u64s ws2 o2))] (WS.startL ⟨⟨rfl, hh0⟩, ⟨rfl, hh1⟩, trivial⟩) fun ac hS => ?_
  refine St.region_seq [⟨0, 0, 0⟩, ⟨0, 0, 0⟩, ⟨0, 0, 0⟩] [2, 3] [0, 1, 2, 3] hS fun ν1 => ⟨[(2, [], .pointer (some ⟨(ν1 0), 0, none⟩)), (3, [], .pointer (some ⟨(ν1 1), 0, none⟩))], [(g1, .fn o1 (o1 + nw1) (u64s ws1 o1)), (g2, .fn o2 (o2 + nw2) (u64s ws2 o2)), ((ν1 0), .cells [.int .i64 ((n1 : Nat) : Int), .slice (some ⟨g1, o1, none⟩) nw1 c1] 26), ((ν1 1), .cells [.int .i64 ((n2 : Nat) : Int), .slice (some ⟨g2, o2, none⟩) nw2 c2] 26)], [], by as_aux_lemma => kernel_rfl, trivial, fun ac wd hS => ?_⟩
  refine wp_region_seq ?_
  refine St.ops 6 [⟨0, 0, 0⟩, ⟨0, 0, 2⟩, ⟨0, 0, 0⟩, ⟨0, 0, 3⟩, ⟨0, 0, 0⟩, ⟨0, 0, 0⟩] [2, 3, 10] [0, 1, 2, 3] hS fun _ => ⟨[(2, [], .pointer (some ⟨(ν1 0), 0, none⟩)), (3, [], .pointer (some ⟨(ν1 1), 0, none⟩)), (10, [], .bool ((((n1 : Nat) : Int) : Int) == ((n2 : Nat) : Int)))], [(g1, .fn o1 (o1 + nw1) (u64s ws1 o1)), (g2, .fn o2 (o2 + nw2) (u64s ws2 o2)), ((ν1 0), .cells [.int .i64 ((n1 : Nat) : Int), .slice (some ⟨g1, o1, none⟩) nw1 c1] 26), ((ν1 1), .cells [.int .i64 ((n2 : Nat) : Int), .slice (some ⟨g2, o2, none⟩) nw2 c2] 26)], [(ν1 1) = (ν1 1), (ν1 0) = (ν1 0)], by as_aux_lemma => kernel_rfl, ⟨rfl, rfl, trivial⟩, fun ac wd hS => ?_⟩
  rcases Bool.eq_false_or_eq_true ((((n1 : Nat) : Int) : Int) == ((n2 : Nat) : Int)) with hg1 | hg1
  · rw [hg1] at hS
    have hg1o := hg1
    try simp only [decide_eq_true_eq, decide_eq_false_iff_not, beq_iff_eq, bne_iff_ne, beq_eq_false_iff_ne, bne_eq_false_iff_eq, Bool.and_eq_true, Bool.or_eq_true, Bool.and_eq_false_iff, Bool.or_eq_false_iff, Bool.not_eq_true', Bool.not_eq_false', ne_eq, Int.not_lt, Int.not_le, Bool.true_and, Bool.false_and, Bool.and_true, Bool.and_false, Bool.or_true, Bool.or_false, Bool.true_or, Bool.false_or, Bool.not_true, Bool.not_false] at hg1
    refine St.ops 4 [⟨1, 0, 0⟩, ⟨1, 0, 2⟩, ⟨1, 0, 0⟩, ⟨1, 0, 3⟩] [10, 12, 14] [0, 1] hS fun _ => ⟨[(10, [], .bool true), (12, [], .slice (some ⟨g1, o1, none⟩) nw1 c1), (14, [], .slice (some ⟨g2, o2, none⟩) nw2 c2)], [(g1, .fn o1 (o1 + nw1) (u64s ws1 o1)), (g2, .fn o2 (o2 + nw2) (u64s ws2 o2))], [(.bool true : Value) = .bool true, (ν1 1) = (ν1 1), (.bool true : Value) = .bool true, (.bool true : Value) = .bool true, (ν1 0) = (ν1 0), (.bool true : Value) = .bool true], by as_aux_lemma => kernel_rfl, ⟨rfl, rfl, rfl, rfl, rfl, rfl, trivial⟩, fun ac wd hS => ?_⟩
    refine St.call 1 0 hS (f := 27) (args := #[.slice (some ⟨g1, o1, none⟩) nw1 c1, .slice (some ⟨g2, o2, none⟩) nw2 c2]) (obs := [(.bool true : Value) = .bool true]) (by as_aux_lemma => kernel_rfl) ⟨rfl, trivial⟩ (by as_aux_lemma => kernel_rfl) (slices_EqualW g1 o1 c1 nw1 _ g2 o2 c2 nw2 _ _ (hS.mem.heap _ (List.mem_of_getElem? (i := 0) rfl)) (hS.mem.heap _ (List.mem_of_getElem? (i := 1) rfl)) (by first | assumption | omega | (simp_all; done) | (simp_all; omega))) ?_
    rintro _ wd ⟨rfl, hF⟩
    refine ⟨.bool (eqW nw1 nw2 ws1 ws2), rfl, ?_⟩
    replace hS := St.put (d := 15) (v := .bool (eqW nw1 nw2 ws1 ws2)) (hS.to (hS.mem.keep0 hF)) (by decide)
    clear hF
    refine St.ops 2 [⟨0, 7, 0⟩, ⟨0, 0, 0⟩] [4] [] hS fun _ => ⟨[(4, [], .bool (eqW nw1 nw2 ws1 ws2))], [], [(.bool true : Value) = .bool true], by as_aux_lemma => kernel_rfl, ⟨rfl, trivial⟩, fun ac wd hS => ?_⟩
    refine list_nil_seq ?_
    refine wp_ret ?_
    refine St.ret 0 hS (v := .bool (eqW nw1 nw2 ws1 ws2)) (obs := []) (by as_aux_lemma => kernel_rfl) trivial fun hw => ?_
    refine ⟨retd (vbool ?_), hw.fr⟩
    all_goals (first | rfl | (simp_all; done))
  · rw [hg1] at hS
    have hg1o := hg1
    try simp only [decide_eq_true_eq, decide_eq_false_iff_not, beq_iff_eq, bne_iff_ne, beq_eq_false_iff_ne, bne_eq_false_iff_eq, Bool.and_eq_true, Bool.or_eq_true, Bool.and_eq_false_iff, Bool.or_eq_false_iff, Bool.not_eq_true', Bool.not_eq_false', ne_eq, Int.not_lt, Int.not_le, Bool.true_and, Bool.false_and, Bool.and_true, Bool.and_false, Bool.or_true, Bool.or_false, Bool.true_or, Bool.false_or, Bool.not_true, Bool.not_false] at hg1
    refine St.ops 7 [⟨2, 0, 0⟩, ⟨2, 0, 0⟩, ⟨2, 0, 0⟩, ⟨2, 0, 0⟩, ⟨2, 0, 0⟩, ⟨0, 6, 0⟩, ⟨0, 0, 0⟩] [4] [] hS fun _ => ⟨[(4, [], .bool false)], [], [(.bool false : Value) = .bool false, (.bool false : Value) = .bool (!true), (.bool false : Value) = .bool (!true), (.bool false : Value) = .bool (!true), (.bool false : Value) = .bool (!true), (.bool false : Value) = .bool (!true)], by as_aux_lemma => kernel_rfl, ⟨rfl, rfl, rfl, rfl, rfl, rfl, trivial⟩, fun ac wd hS => ?_⟩
    refine list_nil_seq ?_
    refine wp_ret ?_
    refine St.ret 0 hS (v := .bool false) (obs := []) (by as_aux_lemma => kernel_rfl) trivial fun hw => ?_
    refine ⟨retd (vbool ?_), hw.fr⟩
    all_goals (first | rfl | (simp_all; done))

set_option maxRecDepth 100000 in
set_option maxHeartbeats 1000000 in
theorem bits_CountC (g : Nat) (o : Nat) (c : Nat) (nw : Nat) (ws : Nat → Nat) (n : Nat) (f : Int) (k : Int) (p : Nat → Bool) (b : Bool) (w : World) (hh0 : HE.holds w g (.fn o (o + nw) (u64s ws o))) (hW : Words ws nw n p) (hn : n ≤ 1048576) (hwt : wth n f k = true) (hb : ∀ y : Int, f ≤ y → y < f + k → p y.toNat = b) :
    Calls Tryd.prog 16 #[.agg #[.int .i64 ((n : Nat) : Int), .slice (some ⟨g, o, none⟩) nw c], .int .i64 f, .int .i64 k] w fun e w' => e = .returned (.tuple #[.int .i64 (if b then k else 0), .int .i64 0]) ∧ Fr w w' [] [] := by
  have hnw := hW.many
  have hsm := hW.small
  obtain ⟨hw0, hw1, hw2⟩ := wth_facts hwt
  refine enter (args := [.agg #[.int .i64 ((n : Nat) : Int), .slice (some ⟨g, o, none⟩) nw c], .int .i64 f, .int .i64 k]) (A := []) Tryd.func16 rfl 42 rfl [(g, .fn o (o + nw) (u64s ws o))] (WS.startL ⟨⟨rfl, hh0⟩, trivial⟩) fun ac hS => ?_
  refine St.region_seq [⟨0, 0, 0⟩, ⟨0, 0, 0⟩, ⟨0, 0, 0⟩] [1, 2, 3] [0, 1] hS fun ν1 => ⟨[(1, [], .int .i64 f), (2, [], .int .i64 k), (3, [], .pointer (some ⟨(ν1 0), 0, none⟩))], [(g, .fn o (o + nw) (u64s ws o)), ((ν1 0), .cells [.int .i64 ((n : Nat) : Int), .slice (some ⟨g, o, none⟩) nw c] 26)], [], by as_aux_lemma => kernel_rfl, trivial, fun ac wd hS => ?_⟩
  refine wp_seq ?_
  refine wp_region_seq ?_
  refine St.ops 3 [⟨0, 0, 1⟩, ⟨0, 0, 0⟩, ⟨0, 0, 0⟩] [1, 2, 3, 11, 12, 13] [0, 1] hS fun _ => ⟨[(1, [], .int .i64 f), (2, [], .int .i64 k), (3, [], .pointer (some ⟨(ν1 0), 0, none⟩)), (11, [], .agg #[.int .i64 ((n : Nat) : Int), .slice (some ⟨g, o, none⟩) nw c]), (12, [], .int .i64 f), (13, [], .int .i64 k)], [(g, .fn o (o + nw) (u64s ws o)), ((ν1 0), .cells [.int .i64 ((n : Nat) : Int), .slice (some ⟨g, o, none⟩) nw c] 26)], [(ν1 0) = (ν1 0), (ν1 0) = (ν1 0)], by as_aux_lemma => kernel_rfl, ⟨rfl, rfl, trivial⟩, fun ac wd hS => ?_⟩
  refine St.call 0 0 hS (f := 29) (args := #[.agg #[.int .i64 ((n : Nat) : Int), .slice (some ⟨g, o, none⟩) nw c], .int .i64 f, .int .i64 k]) (obs := []) (by as_aux_lemma => kernel_rfl) trivial (by as_aux_lemma => kernel_rfl) (bits_within g o c nw _ n f k _ (hS.mem.heap _ (List.mem_of_getElem? (i := 0) rfl)) (by first | assumption | omega | (simp_all; done) | (simp_all; omega))) ?_
  rintro _ wd ⟨rfl, hF⟩
  refine ⟨.bool (wth n f k), rfl, ?_⟩
  replace hS := St.put (d := 14) (v := .bool (wth n f k)) (hS.to (hS.mem.keep0 hF)) (by decide)
  clear hF
  refine St.ops 1 [⟨0, 0, 0⟩] [1, 2, 3, 15] [0, 1] hS fun _ => ⟨[(1, [], .int .i64 f), (2, [], .int .i64 k), (3, [], .pointer (some ⟨(ν1 0), 0, none⟩)), (15, [], .bool (!(wth n f k)))], [(g, .fn o (o + nw) (u64s ws o)), ((ν1 0), .cells [.int .i64 ((n : Nat) : Int), .slice (some ⟨g, o, none⟩) nw c] 26)], [], by as_aux_lemma => kernel_rfl, trivial, fun ac wd hS => ?_⟩
  refine list_nil_seq ?_
  refine St.cond (b := (!(wth n f k))) hS (by as_aux_lemma => kernel_rfl) (fun h => absurd h (by simp [hwt])) (fun _ => ?_)
  refine wp_skip ?_
  refine pop_then ?_
  refine St.region_seq [⟨0, 0, 0⟩] [1, 2, 3, 8] [0, 1] hS fun _ => ⟨[(1, [], .int .i64 f), (2, [], .int .i64 k), (3, [], .pointer (some ⟨(ν1 0), 0, none⟩)), (8, [], .int .i64 0)], [(g, .fn o (o + nw) (u64s ws o)), ((ν1 0), .cells [.int .i64 ((n : Nat) : Int), .slice (some ⟨g, o, none⟩) nw c] 26)], [], by as_aux_lemma => kernel_rfl, trivial, fun ac wd hS => ?_⟩
  refine wp_seq ?_
  refine wp_block ?_
  refine St.loop (σ := Int × Int × Int) (fun (x : Int × Int × Int) => match x with | (x1, x2, x8) => [(1, [], .int .i64 x1), (2, [], .int .i64 x2), (3, [], .pointer (some ⟨(ν1 0), 0, none⟩)), (8, [], .int .i64 x8)]) (fun (x : Int × Int × Int) => match x with | (x1, x2, x8) => [(g, .fn o (o + nw) (u64s ws o)), ((ν1 0), .cells [.int .i64 ((n : Nat) : Int), .slice (some ⟨g, o, none⟩) nw c] 26)]) (fun (x : Int × Int × Int) => match x with | (x1, x2, x8) => []) (fun (x : Int × Int × Int) => match x with | (x1, x2, x8) => (f ≤ x1 ∧ 0 ≤ x2 ∧ x1 + x2 = f + k) ∧ (x8 = if b then x1 - f else 0)) (fun (x : Int × Int × Int) => match x with | (x1, x2, x8) => Int.toNat x2) (f, k, 0) ⟨(by first | omega | (cases b <;> simp)), (by first | omega | (cases b <;> simp))⟩ hS ?_
  clear hS
  rintro ⟨x1, x2, x8⟩ ⟨i0, i1⟩ ac wd hS
  replace hS : St _ 42 [(1, [], .int .i64 x1), (2, [], .int .i64 x2), (3, [], .pointer (some ⟨(ν1 0), 0, none⟩)), (8, [], .int .i64 x8)] [(g, .fn o (o + nw) (u64s ws o)), ((ν1 0), .cells [.int .i64 ((n : Nat) : Int), .slice (some ⟨g, o, none⟩) nw c] 26)] [] ac wd := hS
  replace i0 : f ≤ x1 ∧ 0 ≤ x2 ∧ x1 + x2 = f + k := i0
  replace i1 : x8 = if b then x1 - f else 0 := i1
  have him : 0 < x2 → 1 ≤ imin x2 (64 - (x1 % 64)) ∧ imin x2 (64 - (x1 % 64)) ≤ 64 - (x1 % 64) ∧ imin x2 (64 - (x1 % 64)) ≤ x2 := fun h => by unfold imin; split <;> omega
  have hpc : 0 < x2 → pcI (((ws (Int.toNat (x1 / 64)) &&& mkM (Int.toNat (x1 % 64)) (Int.toNat (imin x2 (64 - (x1 % 64)))) : Nat)) : Int) = if b then imin x2 (64 - (x1 % 64)) else 0 := fun h => pc_masked hW hw0 i0.1 (him h).1 (him h).2.1 (by have := (him h).2.2; omega) (by have := (him h).2.2; omega) hb
  refine wp_seq ?_
  refine St.region_seq [⟨0, 0, 0⟩, ⟨0, 0, 0⟩] [1, 2, 3, 8, 17] [0, 1] hS fun _ => ⟨[(1, [], .int .i64 x1), (2, [], .int .i64 x2), (3, [], .pointer (some ⟨(ν1 0), 0, none⟩)), (8, [], .int .i64 x8), (17, [], .bool (decide ((0 : Int) < x2)))], [(g, .fn o (o + nw) (u64s ws o)), ((ν1 0), .cells [.int .i64 ((n : Nat) : Int), .slice (some ⟨g, o, none⟩) nw c] 26)], [], by as_aux_lemma => kernel_rfl, trivial, fun ac wd hS => ?_⟩
  refine St.cond (b := (decide ((0 : Int) < x2))) hS (by as_aux_lemma => kernel_rfl) (fun hb2 => ?_) (fun hb2 => ?_)
  · have hb2o := hb2
    try simp only [decide_eq_true_eq, decide_eq_false_iff_not, beq_iff_eq, bne_iff_ne, beq_eq_false_iff_ne, bne_eq_false_iff_eq, Bool.and_eq_true, Bool.or_eq_true, Bool.and_eq_false_iff, Bool.or_eq_false_iff, Bool.not_eq_true', Bool.not_eq_false', ne_eq, Int.not_lt, Int.not_le, Bool.true_and, Bool.false_and, Bool.and_true, Bool.and_false, Bool.or_true, Bool.or_false, Bool.true_or, Bool.false_or, Bool.not_true, Bool.not_false] at hb2
    refine wp_skip ?_
    refine pop_then ?_
    refine wp_block ?_
    refine wp_region_seq ?_
    refine St.ops 2 [⟨0, 0, 0⟩, ⟨0, 0, 0⟩] [1, 2, 3, 8, 19, 20] [0, 1] hS fun _ => ⟨[(1, [], .int .i64 x1), (2, [], .int .i64 x2), (3, [], .pointer (some ⟨(ν1 0), 0, none⟩)), (8, [], .int .i64 x8), (19, [], .int .i64 x1), (20, [], .int .i64 x2)], [(g, .fn o (o + nw) (u64s ws o)), ((ν1 0), .cells [.int .i64 ((n : Nat) : Int), .slice (some ⟨g, o, none⟩) nw c] 26)], [], by as_aux_lemma => kernel_rfl, trivial, fun ac wd hS => ?_⟩
    refine St.call 0 0 hS (f := 30) (args := #[.int .i64 x1, .int .i64 x2]) (obs := []) (by as_aux_lemma => kernel_rfl) trivial (by as_aux_lemma => kernel_rfl) (bits_mask x1 x2 _ (by first | assumption | omega | (simp_all; done) | (simp_all; omega)) (by first | assumption | omega | (simp_all; done) | (simp_all; omega))) ?_
    rintro _ wd ⟨rfl, hF⟩
    refine ⟨.tuple #[.int .u64 ((mkM (x1 % 64).toNat (imin x2 (64 - x1 % 64)).toNat : Nat) : Int), .int .i64 (imin x2 (64 - x1 % 64))], rfl, ?_⟩
    replace hS := St.put (d := 21) (v := .tuple #[.int .u64 ((mkM (x1 % 64).toNat (imin x2 (64 - x1 % 64)).toNat : Nat) : Int), .int .i64 (imin x2 (64 - x1 % 64))]) (hS.to (hS.mem.keep0 hF)) (by decide)
    clear hF
    refine St.ops 5 [⟨0, 0, 0⟩, ⟨0, 0, 0⟩, ⟨0, 0, 0⟩, ⟨0, 0, 0⟩, ⟨0, 0, 0⟩] [1, 2, 3, 8, 9, 10] [0, 1] hS fun _ => ⟨[(1, [], .int .i64 x1), (2, [], .int .i64 x2), (3, [], .pointer (some ⟨(ν1 0), 0, none⟩)), (8, [], .int .i64 x8), (9, [], .int .u64 ((mkM (x1 % 64).toNat (imin x2 (64 - x1 % 64)).toNat : Nat) : Int)), (10, [], .int .i64 (imin x2 (64 - x1 % 64)))], [(g, .fn o (o + nw) (u64s ws o)), ((ν1 0), .cells [.int .i64 ((n : Nat) : Int), .slice (some ⟨g, o, none⟩) nw c] 26)], [], by as_aux_lemma => kernel_rfl, trivial, fun ac wd hS => ?_⟩
    refine list_nil_seq ?_
    refine wp_region_seq ?_
    have ew3 : (IntKind.wrap .i64 (Int.tdiv x1 64)) = (x1 / 64) := quo_in (x := x1) (d := 64) (by omega) (by omega) (by omega)
    have ew4 : ((ws (o + Int.toNat (x1 / 64) * 1 - o) : Nat) : Int) = ((ws (Int.toNat (x1 / 64)) : Nat) : Int) := by rw [Nat.mul_one, Nat.add_sub_cancel_left]
    have ew5 : (iand .u64 ((ws (Int.toNat (x1 / 64)) : Nat) : Int) ((mkM (x1 % 64).toNat (imin x2 (64 - x1 % 64)).toNat : Nat) : Int)) = (((ws (Int.toNat (x1 / 64))) &&& (mkM (x1 % 64).toNat (imin x2 (64 - x1 % 64)).toNat) : Nat) : Int) := iand_u (a := ws (Int.toNat (x1 / 64))) (b := mkM (x1 % 64).toNat (imin x2 (64 - x1 % 64)).toNat) (by first | exact hW.small _ (by rw [hW.many]; omega) | exact mkM_lt (by omega)) (by first | exact hW.small _ (by rw [hW.many]; omega) | exact mkM_lt (by omega))
    refine St.ops 9 [⟨0, 0, 0⟩, ⟨0, 0, 0⟩, ⟨0, 0, 1⟩, ⟨0, 0, 0⟩, ⟨0, 0, 0⟩, ⟨0, 2, 0⟩, ⟨0, 0, 0⟩, ⟨0, 0, 0⟩, ⟨0, 0, 0⟩] [1, 2, 3, 8, 10, 24, 32] [0, 1] hS fun _ => ⟨[(1, [], .int .i64 x1), (2, [], .int .i64 x2), (3, [], .pointer (some ⟨(ν1 0), 0, none⟩)), (8, [], .int .i64 x8), (10, [], .int .i64 (imin x2 (64 - x1 % 64))), (24, [], .int .i64 x8), (32, [], .int .u64 (iand .u64 ((ws (o + Int.toNat (IntKind.wrap .i64 (Int.tdiv x1 64)) * 1 - o) : Nat) : Int) ((mkM (x1 % 64).toNat (imin x2 (64 - x1 % 64)).toNat : Nat) : Int)))], [(g, .fn o (o + nw) (u64s ws o)), ((ν1 0), .cells [.int .i64 ((n : Nat) : Int), .slice (some ⟨g, o, none⟩) nw c] 26)], [g = g, o ≤ o + Int.toNat (IntKind.wrap .i64 (Int.tdiv x1 64)) * 1 ∧ o + Int.toNat (IntKind.wrap .i64 (Int.tdiv x1 64)) * 1 < (o + nw), 0 ≤ (IntKind.wrap .i64 (Int.tdiv x1 64)) ∧ (IntKind.wrap .i64 (Int.tdiv x1 64)) < ((nw : Nat) : Int), (ν1 0) = (ν1 0)], by as_aux_lemma => kernel_rfl, ⟨rfl, (by (try simp only [ew3, ew4, ew5]); first | omega | (intro _; exact ⟨rfl, trivial⟩) | (simp; omega) | (simp_all; done) | (simp_all; omega)), (by (try simp only [ew3, ew4, ew5]); first | omega | (intro _; exact ⟨rfl, trivial⟩) | (simp; omega) | (simp_all; done) | (simp_all; omega)), rfl, trivial⟩, fun ac wd hS => ?_⟩
    simp only [ew3, ew4, ew5] at hS
    refine St.call 0 0 hS (f := 31) (args := #[.int .u64 (((ws (Int.toNat (x1 / 64))) &&& (mkM (x1 % 64).toNat (imin x2 (64 - x1 % 64)).toNat) : Nat) : Int)]) (obs := []) (by as_aux_lemma => kernel_rfl) trivial (by as_aux_lemma => kernel_rfl) (bits_Ones ((ws (Int.toNat (x1 / 64))) &&& (mkM (x1 % 64).toNat (imin x2 (64 - x1 % 64)).toNat)) _ ) ?_
    rintro _ wd ⟨rfl, hF⟩
    refine ⟨.int .i64 (pcI ((((ws (Int.toNat (x1 / 64))) &&& (mkM (x1 % 64).toNat (imin x2 (64 - x1 % 64)).toNat)) : Nat) : Int)), rfl, ?_⟩
    replace hS := St.put (d := 33) (v := .int .i64 (pcI ((((ws (Int.toNat (x1 / 64))) &&& (mkM (x1 % 64).toNat (imin x2 (64 - x1 % 64)).toNat)) : Nat) : Int))) (hS.to (hS.mem.keep0 hF)) (by decide)
    clear hF
    have ew6 : (IntKind.wrap .i64 (x8 + (pcI ((((ws (Int.toNat (x1 / 64))) &&& (mkM (x1 % 64).toNat (imin x2 (64 - x1 % 64)).toNat)) : Nat) : Int)))) = (x8 + (pcI ((((ws (Int.toNat (x1 / 64))) &&& (mkM (x1 % 64).toNat (imin x2 (64 - x1 % 64)).toNat)) : Nat) : Int))) := i64_in (x := (x8 + (pcI ((((ws (Int.toNat (x1 / 64))) &&& (mkM (x1 % 64).toNat (imin x2 (64 - x1 % 64)).toNat)) : Nat) : Int)))) (by omega)
    refine St.ops 2 [⟨0, 0, 0⟩, ⟨0, 0, 0⟩] [1, 2, 3, 8, 10] [0, 1] hS fun _ => ⟨[(1, [], .int .i64 x1), (2, [], .int .i64 x2), (3, [], .pointer (some ⟨(ν1 0), 0, none⟩)), (8, [], .int .i64 (IntKind.wrap .i64 (x8 + (pcI ((((ws (Int.toNat (x1 / 64))) &&& (mkM (x1 % 64).toNat (imin x2 (64 - x1 % 64)).toNat)) : Nat) : Int))))), (10, [], .int .i64 (imin x2 (64 - x1 % 64)))], [(g, .fn o (o + nw) (u64s ws o)), ((ν1 0), .cells [.int .i64 ((n : Nat) : Int), .slice (some ⟨g, o, none⟩) nw c] 26)], [], by as_aux_lemma => kernel_rfl, trivial, fun ac wd hS => ?_⟩
    simp only [ew6] at hS
    refine list_nil_seq ?_
    have ew7 : (IntKind.wrap .i64 (x1 + (imin x2 (64 - x1 % 64)))) = (x1 + (imin x2 (64 - x1 % 64))) := i64_in (x := (x1 + (imin x2 (64 - x1 % 64)))) (by omega)
    have ew8 : (IntKind.wrap .i64 (x2 - (imin x2 (64 - x1 % 64)))) = (x2 - (imin x2 (64 - x1 % 64))) := i64_in (x := (x2 - (imin x2 (64 - x1 % 64)))) (by omega)
    refine St.region [⟨0, 0, 0⟩, ⟨0, 0, 0⟩, ⟨0, 0, 0⟩, ⟨0, 0, 0⟩, ⟨0, 0, 0⟩, ⟨0, 0, 0⟩, ⟨0, 0, 0⟩, ⟨0, 0, 0⟩] [1, 2, 3, 8] [0, 1] hS fun _ => ⟨[(1, [], .int .i64 (IntKind.wrap .i64 (x1 + (imin x2 (64 - x1 % 64))))), (2, [], .int .i64 (IntKind.wrap .i64 (x2 - (imin x2 (64 - x1 % 64))))), (3, [], .pointer (some ⟨(ν1 0), 0, none⟩)), (8, [], .int .i64 (x8 + (pcI ((((ws (Int.toNat (x1 / 64))) &&& (mkM (x1 % 64).toNat (imin x2 (64 - x1 % 64)).toNat)) : Nat) : Int))))], [(g, .fn o (o + nw) (u64s ws o)), ((ν1 0), .cells [.int .i64 ((n : Nat) : Int), .slice (some ⟨g, o, none⟩) nw c] 26)], [], by as_aux_lemma => kernel_rfl, trivial, fun ac wd hS => ?_⟩
    simp only [ew7, ew8] at hS
    refine pop_block ?_
    exact pop_then ⟨((x1 + (imin x2 (64 - x1 % 64))), (x2 - (imin x2 (64 - x1 % 64))), (x8 + (pcI ((((ws (Int.toNat (x1 / 64))) &&& (mkM (x1 % 64).toNat (imin x2 (64 - x1 % 64)).toNat)) : Nat) : Int)))), ⟨(by first | omega | assumption | (simp; done) | (simp; omega)), (by rw [hpc (by omega), i1]; cases b <;> simp <;> omega)⟩, (by first | omega | (simp; omega) | (simp only []; omega)), hS⟩
  · have hb2o := hb2
    try simp only [decide_eq_true_eq, decide_eq_false_iff_not, beq_iff_eq, bne_iff_ne, beq_eq_false_iff_ne, bne_eq_false_iff_eq, Bool.and_eq_true, Bool.or_eq_true, Bool.and_eq_false_iff, Bool.or_eq_false_iff, Bool.not_eq_true', Bool.not_eq_false', ne_eq, Int.not_lt, Int.not_le, Bool.true_and, Bool.false_and, Bool.and_true, Bool.and_false, Bool.or_true, Bool.or_false, Bool.true_or, Bool.false_or, Bool.not_true, Bool.not_false] at hb2
    refine wp_exit ?_
    refine pop_then_exit ?_
    refine pop_then_exit ?_
    refine pop_block_hit ?_
    refine pop_then ?_
    refine St.region_seq [⟨0, 0, 0⟩, ⟨0, 0, 0⟩, ⟨0, 0, 0⟩] [6, 7] [] hS fun _ => ⟨[(6, [], .int .i64 x8), (7, [], .int .i64 0)], [], [], by as_aux_lemma => kernel_rfl, trivial, fun ac wd hS => ?_⟩
    refine wp_ret ?_
    refine St.ret 0 hS (v := .tuple #[.int .i64 x8, .int .i64 0]) (obs := []) (by as_aux_lemma => kernel_rfl) trivial fun hw => ?_
    refine ⟨retd (tuple2 (vint ?_) rfl), hw.fr⟩
    all_goals (first | rfl | (rw [i1]; cases b <;> simp <;> omega))

end Go.Proofs.YtdjdgdkkhadkoaaDoor.K
