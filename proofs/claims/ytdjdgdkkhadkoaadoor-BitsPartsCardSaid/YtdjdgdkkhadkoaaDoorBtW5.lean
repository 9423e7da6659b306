import Derived.Test.YtdjdgdkkhadkoaaDoorBtW1
import Derived.Test.YtdjdgdkkhadkoaaDoorBtW2
import Derived.Test.YtdjdgdkkhadkoaaDoorBtW3
import Derived.Test.YtdjdgdkkhadkoaaDoorBtW4
import Derived.Test.YtdjdgdkkhadkoaaDoorRx
import Derived.Test.YtdjdgdkkhadkoaaDoorBt
import Derived.Test.YtdjdgdkkhadkoaaDoorKg
import Derived.Test.YtdjdgdkkhadkoaaDoorProg
namespace Go.Proofs.YtdjdgdkkhadkoaaDoor.K
set_option linter.unusedVariables false
set_option linter.unusedSimpArgs false



set_option maxRecDepth 100000 in
set_option maxHeartbeats 1000000 in
theorem slices_EqualI (g1 : Nat) (o1 : Nat) (c1 : Nat) (l1 : List Int) (g2 : Nat) (o2 : Nat) (c2 : Nat) (l2 : List Int) (w : World) (hh0 : HE.holds w g1 (.fn o1 (o1 + l1.length) (ints l1 o1))) (hh1 : HE.holds w g2 (.fn o2 (o2 + l2.length) (ints l2 o2))) (hl : l1.length ≤ 4611686018427387904) :
    Calls Tryd.prog 22 #[.slice (some ⟨g1, o1, none⟩) l1.length c1, .slice (some ⟨g2, o2, none⟩) l2.length c2] w fun e w' => e = .returned (.bool (l1 == l2)) ∧ Fr w w' [] [] := by
  refine enter (args := [.slice (some ⟨g1, o1, none⟩) l1.length c1, .slice (some ⟨g2, o2, none⟩) l2.length c2]) (A := []) Tryd.func22 rfl 26 rfl [(g1, .fn o1 (o1 + l1.length) (ints l1 o1)), (g2, .fn o2 (o2 + l2.length) (ints l2 o2))] (WS.startL ⟨⟨rfl, hh0⟩, ⟨rfl, hh1⟩, trivial⟩) fun ac hS => ?_
  refine St.region_seq [⟨0, 0, 0⟩] [0, 1] [0, 1] hS fun _ => ⟨[(0, [], .slice (some ⟨g1, o1, none⟩) l1.length c1), (1, [], .slice (some ⟨g2, o2, none⟩) l2.length c2)], [(g1, .fn o1 (o1 + l1.length) (ints l1 o1)), (g2, .fn o2 (o2 + l2.length) (ints l2 o2))], [], by as_aux_lemma => kernel_rfl, trivial, fun ac wd hS => ?_⟩
  refine wp_seq ?_
  refine St.region_seq [⟨0, 0, 0⟩, ⟨0, 0, 0⟩, ⟨0, 0, 0⟩, ⟨0, 0, 0⟩, ⟨0, 0, 0⟩] [0, 1, 10] [0, 1] hS fun _ => ⟨[(0, [], .slice (some ⟨g1, o1, none⟩) l1.length c1), (1, [], .slice (some ⟨g2, o2, none⟩) l2.length c2), (10, [], .bool ((((l1.length : Nat) : Int) : Int) != ((l2.length : Nat) : Int)))], [(g1, .fn o1 (o1 + l1.length) (ints l1 o1)), (g2, .fn o2 (o2 + l2.length) (ints l2 o2))], [], by as_aux_lemma => kernel_rfl, trivial, fun ac wd hS => ?_⟩
  refine St.cond (b := ((((l1.length : Nat) : Int) : Int) != ((l2.length : Nat) : Int))) hS (by as_aux_lemma => kernel_rfl) (fun hb1 => ?_) (fun hb1 => ?_)
  · have hb1o := hb1
    try simp only [decide_eq_true_eq, decide_eq_false_iff_not, beq_iff_eq, bne_iff_ne, beq_eq_false_iff_ne, bne_eq_false_iff_eq, Bool.and_eq_true, Bool.or_eq_true, Bool.and_eq_false_iff, Bool.or_eq_false_iff, Bool.not_eq_true', Bool.not_eq_false', ne_eq, Int.not_lt, Int.not_le, Bool.true_and, Bool.false_and, Bool.and_true, Bool.and_false, Bool.or_true, Bool.or_false, Bool.true_or, Bool.false_or, Bool.not_true, Bool.not_false] at hb1
    refine St.region_seq [⟨0, 0, 0⟩] [4] [] hS fun _ => ⟨[(4, [], .bool false)], [], [], by as_aux_lemma => kernel_rfl, trivial, fun ac wd hS => ?_⟩
    refine wp_ret ?_
    refine pop_then_ret ?_
    refine St.ret 0 hS (v := .bool false) (obs := []) (by as_aux_lemma => kernel_rfl) trivial fun hw => ?_
    refine ⟨retd (vbool ?_), hw.fr⟩
    all_goals (first | exact eqL_len (by omega) | exact eqL_at (x := x13) (by omega) (by omega) (by assumption) | exact eqL_all (x := x13) (by omega) (by omega) i2)
  · have hb1o := hb1
    try simp only [decide_eq_true_eq, decide_eq_false_iff_not, beq_iff_eq, bne_iff_ne, beq_eq_false_iff_ne, bne_eq_false_iff_eq, Bool.and_eq_true, Bool.or_eq_true, Bool.and_eq_false_iff, Bool.or_eq_false_iff, Bool.not_eq_true', Bool.not_eq_false', ne_eq, Int.not_lt, Int.not_le, Bool.true_and, Bool.false_and, Bool.and_true, Bool.and_false, Bool.or_true, Bool.or_false, Bool.true_or, Bool.false_or, Bool.not_true, Bool.not_false] at hb1
    refine wp_skip ?_
    refine pop_then ?_
    refine wp_seq ?_
    refine St.region_seq [⟨0, 0, 0⟩, ⟨0, 0, 0⟩, ⟨0, 0, 0⟩] [0, 1, 12, 13] [0, 1] hS fun _ => ⟨[(0, [], .slice (some ⟨g1, o1, none⟩) l1.length c1), (1, [], .slice (some ⟨g2, o2, none⟩) l2.length c2), (12, [], .int .i64 ((l1.length : Nat) : Int)), (13, [], .int .i64 0)], [(g1, .fn o1 (o1 + l1.length) (ints l1 o1)), (g2, .fn o2 (o2 + l2.length) (ints l2 o2))], [], by as_aux_lemma => kernel_rfl, trivial, fun ac wd hS => ?_⟩
    refine wp_block ?_
    refine St.loop (σ := Int) (fun (x : Int) => match x with | x13 => [(0, [], .slice (some ⟨g1, o1, none⟩) l1.length c1), (1, [], .slice (some ⟨g2, o2, none⟩) l2.length c2), (12, [], .int .i64 ((l1.length : Nat) : Int)), (13, [], .int .i64 x13)]) (fun (x : Int) => match x with | x13 => [(g1, .fn o1 (o1 + l1.length) (ints l1 o1)), (g2, .fn o2 (o2 + l2.length) (ints l2 o2))]) (fun (x : Int) => match x with | x13 => []) (fun (x : Int) => match x with | x13 => (0 ≤ x13) ∧ (x13 ≤ (l1.length : Int)) ∧ (l1.take (Int.toNat x13) = l2.take (Int.toNat x13))) (fun (x : Int) => match x with | x13 => (l1.length : Int).toNat - Int.toNat x13) 0 ⟨(by first | omega | rfl), (by first | omega | rfl), (by first | omega | rfl)⟩ hS ?_
    clear hS
    rintro x13 ⟨i0, i1, i2⟩ ac wd hS
    replace hS : St _ 26 [(0, [], .slice (some ⟨g1, o1, none⟩) l1.length c1), (1, [], .slice (some ⟨g2, o2, none⟩) l2.length c2), (12, [], .int .i64 ((l1.length : Nat) : Int)), (13, [], .int .i64 x13)] [(g1, .fn o1 (o1 + l1.length) (ints l1 o1)), (g2, .fn o2 (o2 + l2.length) (ints l2 o2))] [] ac wd := hS
    replace i0 : 0 ≤ x13 := i0
    replace i1 : x13 ≤ (l1.length : Int) := i1
    replace i2 : l1.take (Int.toNat x13) = l2.take (Int.toNat x13) := i2
    refine St.region_seq [⟨0, 0, 0⟩] [0, 1, 12, 13, 14] [0, 1] hS fun _ => ⟨[(0, [], .slice (some ⟨g1, o1, none⟩) l1.length c1), (1, [], .slice (some ⟨g2, o2, none⟩) l2.length c2), (12, [], .int .i64 ((l1.length : Nat) : Int)), (13, [], .int .i64 x13), (14, [], .bool (decide ((x13 : Int) < ((l1.length : Nat) : Int))))], [(g1, .fn o1 (o1 + l1.length) (ints l1 o1)), (g2, .fn o2 (o2 + l2.length) (ints l2 o2))], [], by as_aux_lemma => kernel_rfl, trivial, fun ac wd hS => ?_⟩
    refine wp_seq ?_
    refine St.cond (b := (decide ((x13 : Int) < ((l1.length : Nat) : Int)))) hS (by as_aux_lemma => kernel_rfl) (fun hb2 => ?_) (fun hb2 => ?_)
    · have hb2o := hb2
      try simp only [decide_eq_true_eq, decide_eq_false_iff_not, beq_iff_eq, bne_iff_ne, beq_eq_false_iff_ne, bne_eq_false_iff_eq, Bool.and_eq_true, Bool.or_eq_true, Bool.and_eq_false_iff, Bool.or_eq_false_iff, Bool.not_eq_true', Bool.not_eq_false', ne_eq, Int.not_lt, Int.not_le, Bool.true_and, Bool.false_and, Bool.and_true, Bool.and_false, Bool.or_true, Bool.or_false, Bool.true_or, Bool.false_or, Bool.not_true, Bool.not_false] at hb2
      refine wp_skip ?_
      refine pop_then ?_
      refine wp_seq ?_
      refine wp_block ?_
      refine St.region_seq [⟨0, 0, 0⟩, ⟨0, 0, 0⟩] [0, 1, 5, 12, 13] [0, 1] hS fun _ => ⟨[(0, [], .slice (some ⟨g1, o1, none⟩) l1.length c1), (1, [], .slice (some ⟨g2, o2, none⟩) l2.length c2), (5, [], .int .i64 x13), (12, [], .int .i64 ((l1.length : Nat) : Int)), (13, [], .int .i64 x13)], [(g1, .fn o1 (o1 + l1.length) (ints l1 o1)), (g2, .fn o2 (o2 + l2.length) (ints l2 o2))], [], by as_aux_lemma => kernel_rfl, trivial, fun ac wd hS => ?_⟩
      have ew3 : (l1.getD (o1 + Int.toNat x13 * 1 - o1) 0) = (l1.getD (Int.toNat x13) 0) := by rw [Nat.mul_one, Nat.add_sub_cancel_left]
      have ew4 : (l2.getD (o2 + Int.toNat x13 * 1 - o2) 0) = (l2.getD (Int.toNat x13) 0) := by rw [Nat.mul_one, Nat.add_sub_cancel_left]
      refine St.quiet_seq [⟨0, 0, 0⟩, ⟨0, 0, 0⟩, ⟨0, 2, 0⟩, ⟨0, 0, 0⟩, ⟨0, 0, 0⟩, ⟨0, 0, 0⟩, ⟨0, 2, 0⟩, ⟨0, 0, 1⟩, ⟨0, 0, 0⟩] [0, 1, 12, 13, 24] [0, 1] hS (by kernel_rfl) (by kernel_rfl) (E' := [(0, [], .slice (some ⟨g1, o1, none⟩) l1.length c1), (1, [], .slice (some ⟨g2, o2, none⟩) l2.length c2), (12, [], .int .i64 ((l1.length : Nat) : Int)), (13, [], .int .i64 x13), (24, [], .bool (((l1.getD (o1 + Int.toNat x13 * 1 - o1) 0) : Int) != (l2.getD (o2 + Int.toNat x13 * 1 - o2) 0)))]) (H' := [(g1, .fn o1 (o1 + l1.length) (ints l1 o1)), (g2, .fn o2 (o2 + l2.length) (ints l2 o2))]) (obs := [g2 = g2, o2 ≤ o2 + Int.toNat x13 * 1 ∧ o2 + Int.toNat x13 * 1 < (o2 + l2.length), 0 ≤ x13 ∧ x13 < ((l2.length : Nat) : Int), g1 = g1, o1 ≤ o1 + Int.toNat x13 * 1 ∧ o1 + Int.toNat x13 * 1 < (o1 + l1.length), 0 ≤ x13 ∧ x13 < ((l1.length : Nat) : Int)]) (by as_aux_lemma => kernel_rfl) (⟨rfl, (by (try simp only [ew3, ew4]); first | omega | (intro _; exact ⟨rfl, trivial⟩) | (simp; omega) | (simp_all; done) | (simp_all; omega)), (by (try simp only [ew3, ew4]); first | omega | (intro _; exact ⟨rfl, trivial⟩) | (simp; omega) | (simp_all; done) | (simp_all; omega)), rfl, (by (try simp only [ew3, ew4]); first | omega | (intro _; exact ⟨rfl, trivial⟩) | (simp; omega) | (simp_all; done) | (simp_all; omega)), (by (try simp only [ew3, ew4]); first | omega | (intro _; exact ⟨rfl, trivial⟩) | (simp; omega) | (simp_all; done) | (simp_all; omega)), trivial⟩ : AllP [g2 = g2, o2 ≤ o2 + Int.toNat x13 * 1 ∧ o2 + Int.toNat x13 * 1 < (o2 + l2.length), 0 ≤ x13 ∧ x13 < ((l2.length : Nat) : Int), g1 = g1, o1 ≤ o1 + Int.toNat x13 * 1 ∧ o1 + Int.toNat x13 * 1 < (o1 + l1.length), 0 ≤ x13 ∧ x13 < ((l1.length : Nat) : Int)]) fun ac wd hS => ?_
      simp only [ew3, ew4] at hS
      refine St.cond (b := (((l1.getD (Int.toNat x13) 0) : Int) != (l2.getD (Int.toNat x13) 0))) hS (by as_aux_lemma => kernel_rfl) (fun hb5 => ?_) (fun hb5 => ?_)
      · have hb5o := hb5
        try simp only [decide_eq_true_eq, decide_eq_false_iff_not, beq_iff_eq, bne_iff_ne, beq_eq_false_iff_ne, bne_eq_false_iff_eq, Bool.and_eq_true, Bool.or_eq_true, Bool.and_eq_false_iff, Bool.or_eq_false_iff, Bool.not_eq_true', Bool.not_eq_false', ne_eq, Int.not_lt, Int.not_le, Bool.true_and, Bool.false_and, Bool.and_true, Bool.and_false, Bool.or_true, Bool.or_false, Bool.true_or, Bool.false_or, Bool.not_true, Bool.not_false] at hb5
        refine St.region_seq [⟨0, 0, 0⟩] [4] [] hS fun _ => ⟨[(4, [], .bool false)], [], [], by as_aux_lemma => kernel_rfl, trivial, fun ac wd hS => ?_⟩
        refine wp_ret ?_
        refine pop_block_ret ?_
        refine pop_then_ret ?_
        refine pop_then_ret ?_
        refine pop_block_ret ?_
        refine pop_then_ret ?_
        refine St.ret 0 hS (v := .bool false) (obs := []) (by as_aux_lemma => kernel_rfl) trivial fun hw => ?_
        refine ⟨retd (vbool ?_), hw.fr⟩
        all_goals (first | exact eqL_len (by omega) | exact eqL_at (x := x13) (by omega) (by omega) (by assumption) | exact eqL_all (x := x13) (by omega) (by omega) i2)
      · have hb5o := hb5
        try simp only [decide_eq_true_eq, decide_eq_false_iff_not, beq_iff_eq, bne_iff_ne, beq_eq_false_iff_ne, bne_eq_false_iff_eq, Bool.and_eq_true, Bool.or_eq_true, Bool.and_eq_false_iff, Bool.or_eq_false_iff, Bool.not_eq_true', Bool.not_eq_false', ne_eq, Int.not_lt, Int.not_le, Bool.true_and, Bool.false_and, Bool.and_true, Bool.and_false, Bool.or_true, Bool.or_false, Bool.true_or, Bool.false_or, Bool.not_true, Bool.not_false] at hb5
        refine wp_skip ?_
        refine pop_block ?_
        refine pop_then ?_
        have ew6 : (IntKind.wrap .i64 (x13 + 1)) = (x13 + 1) := i64_in (x := (x13 + 1)) (by omega)
        refine St.region [⟨0, 0, 0⟩, ⟨0, 0, 0⟩] [0, 1, 12, 13] [0, 1] hS fun _ => ⟨[(0, [], .slice (some ⟨g1, o1, none⟩) l1.length c1), (1, [], .slice (some ⟨g2, o2, none⟩) l2.length c2), (12, [], .int .i64 ((l1.length : Nat) : Int)), (13, [], .int .i64 (IntKind.wrap .i64 (x13 + 1)))], [(g1, .fn o1 (o1 + l1.length) (ints l1 o1)), (g2, .fn o2 (o2 + l2.length) (ints l2 o2))], [], by as_aux_lemma => kernel_rfl, trivial, fun ac wd hS => ?_⟩
        simp only [ew6] at hS
        exact pop_then ⟨(x13 + 1), ⟨(by first | omega | assumption | (simp; done) | (simp; omega)), (by first | omega | assumption | (simp; done) | (simp; omega)), (by exact take_step (by omega) (by omega) i2 (by assumption))⟩, (by first | omega | (simp; omega) | (simp only []; omega)), hS⟩
    · have hb2o := hb2
      try simp only [decide_eq_true_eq, decide_eq_false_iff_not, beq_iff_eq, bne_iff_ne, beq_eq_false_iff_ne, bne_eq_false_iff_eq, Bool.and_eq_true, Bool.or_eq_true, Bool.and_eq_false_iff, Bool.or_eq_false_iff, Bool.not_eq_true', Bool.not_eq_false', ne_eq, Int.not_lt, Int.not_le, Bool.true_and, Bool.false_and, Bool.and_true, Bool.and_false, Bool.or_true, Bool.or_false, Bool.true_or, Bool.false_or, Bool.not_true, Bool.not_false] at hb2
      refine wp_exit ?_
      refine pop_then_exit ?_
      refine pop_then_exit ?_
      refine pop_block_hit ?_
      refine pop_then ?_
      refine St.region_seq [⟨0, 0, 0⟩] [4] [] hS fun _ => ⟨[(4, [], .bool true)], [], [], by as_aux_lemma => kernel_rfl, trivial, fun ac wd hS => ?_⟩
      refine wp_ret ?_
      refine St.ret 0 hS (v := .bool true) (obs := []) (by as_aux_lemma => kernel_rfl) trivial fun hw => ?_
      refine ⟨retd (vbool ?_), hw.fr⟩
      all_goals (first | exact eqL_len (by omega) | exact eqL_at (x := x13) (by omega) (by omega) (by assumption) | exact eqL_all (x := x13) (by omega) (by omega) i2)

set_option maxRecDepth 100000 in
set_option maxHeartbeats 1000000 in
theorem law02_awake (w : World) (hh0 : HE.holds w 0 (.fn 0 64 dbT)) :
    Calls Tryd.prog 7 #[] w fun e w' => e = .returned (.bool true) ∧ Fr w w' [] [] := by
  refine enter (args := []) (A := []) Tryd.func7 rfl 40 rfl [(0, .fn 0 64 dbT)] (WS.startL ⟨⟨rfl, hh0⟩, trivial⟩) fun ac hS => ?_
  refine St.region_seq [⟨0, 0, 0⟩] [] [0] hS fun _ => ⟨[], [(0, .fn 0 64 dbT)], [], by as_aux_lemma => kernel_rfl, trivial, fun ac wd hS => ?_⟩
  refine wp_region_seq ?_
  refine St.call 0 0 hS (f := 8) (args := #[.int .i64 10]) (obs := []) (by as_aux_lemma => kernel_rfl) trivial (by as_aux_lemma => kernel_rfl) (bits_New 10 _ ) ?_
  rintro _ wd ⟨g21, c22, rfl, hog, hoh, hF⟩
  have ho3 : w.heap.size ≤ g21 := Nat.le_trans hS.mem.fr.size hog
  refine ⟨.agg #[.int .i64 ((capN 10 : Nat) : Int), .slice (some ⟨g21, 0, none⟩) ((capN 10 + 63) / 64) c22], rfl, ?_⟩
  replace hS := St.put (d := 7) (v := .agg #[.int .i64 ((capN 10 : Nat) : Int), .slice (some ⟨g21, 0, none⟩) ((capN 10 + 63) / 64) c22]) (hS.to (hS.mem.outN hF hog hoh)) (by decide)
  clear hF
  refine St.call 0 0 hS (f := 13) (args := #[.agg #[.int .i64 ((capN 10 : Nat) : Int), .slice (some ⟨g21, 0, none⟩) ((capN 10 + 63) / 64) c22], .int .i64 2, .int .i64 3]) (obs := []) (by as_aux_lemma => kernel_rfl) trivial (by as_aux_lemma => kernel_rfl) (bits_With g21 0 c22 ((capN 10 + 63) / 64) _ (capN 10) 2 3 (fun _ => false) _ (hS.mem.heap _ (List.mem_of_getElem? (i := 1) rfl)) (by first | exact words_none _ | exact capN_le _ | decide) (by first | exact words_none _ | exact capN_le _ | decide)) ?_
  rintro _ wd ⟨g24, o25, c26, ws27, rfl, hW28, hog, hoh, hF⟩
  refine ⟨.tuple #[.agg #[.int .i64 (((capN 10) : Nat) : Int), .slice (some ⟨g24, o25, none⟩) ((capN 10 + 63) / 64) c26], .int .i64 (trnE (capN 10) 2 3)], rfl, ?_⟩
  replace hS := St.put (d := 8) (v := .tuple #[.agg #[.int .i64 (((capN 10) : Nat) : Int), .slice (some ⟨g24, o25, none⟩) ((capN 10 + 63) / 64) c26], .int .i64 (trnE (capN 10) 2 3)]) (hS.to (hS.mem.outF hF 1 rfl rfl hog hoh)) (by decide)
  clear hF
  refine St.ops 6 [⟨0, 0, 0⟩, ⟨0, 0, 0⟩, ⟨0, 0, 0⟩, ⟨0, 0, 0⟩, ⟨0, 0, 3⟩, ⟨0, 0, 0⟩] [1, 2] [0, 2, 3] hS fun ν2 => ⟨[(1, [], .pointer (some ⟨(ν2 0), 0, none⟩)), (2, [], .int .i64 (trnE (capN 10) 2 3))], [(0, .fn 0 64 dbT), (g24, .fn o25 (o25 + ((capN 10 + 63) / 64)) (u64s ws27 o25)), ((ν2 0), .cells [.int .i64 (((capN 10) : Nat) : Int), .slice (some ⟨g24, o25, none⟩) ((capN 10 + 63) / 64) c26] 26)], [(ν2 0) = (ν2 0), (ν2 0) = (ν2 0)], by as_aux_lemma => kernel_rfl, ⟨rfl, rfl, trivial⟩, fun ac wd hS => ?_⟩
  refine list_nil_seq ?_
  refine wp_region_seq ?_
  refine St.ops 1 [⟨0, 0, 2⟩] [1, 2, 12] [0, 1, 2] hS fun _ => ⟨[(1, [], .pointer (some ⟨(ν2 0), 0, none⟩)), (2, [], .int .i64 (trnE (capN 10) 2 3)), (12, [], .agg #[.int .i64 (((capN 10) : Nat) : Int), .slice (some ⟨g24, o25, none⟩) ((capN 10 + 63) / 64) c26])], [(0, .fn 0 64 dbT), (g24, .fn o25 (o25 + ((capN 10 + 63) / 64)) (u64s ws27 o25)), ((ν2 0), .cells [.int .i64 (((capN 10) : Nat) : Int), .slice (some ⟨g24, o25, none⟩) ((capN 10 + 63) / 64) c26] 26)], [(ν2 0) = (ν2 0), (ν2 0) = (ν2 0)], by as_aux_lemma => kernel_rfl, ⟨rfl, rfl, trivial⟩, fun ac wd hS => ?_⟩
  refine St.call 0 0 hS (f := 15) (args := #[.agg #[.int .i64 (((capN 10) : Nat) : Int), .slice (some ⟨g24, o25, none⟩) ((capN 10 + 63) / 64) c26], .int .i64 3, .int .i64 1]) (obs := []) (by as_aux_lemma => kernel_rfl) trivial (by as_aux_lemma => kernel_rfl) (bits_Without g24 o25 c26 ((capN 10 + 63) / 64) _ (capN 10) 3 1 (trn (fun _ => false) (capN 10) 2 3 true) _ (hS.mem.heap _ (List.mem_of_getElem? (i := 1) rfl)) (by first | assumption | exact capN_le _) (by first | assumption | exact capN_le _)) ?_
  rintro _ wd ⟨g210, o211, c212, ws213, rfl, hW214, hog, hoh, hF⟩
  have ho15 : g210 = g24 ∨ w.heap.size ≤ g210 := by rcases hog with hx | hx; rw [hx]; exact (.inl rfl); exact .inr (Nat.le_trans hS.mem.fr.size hx)
  refine ⟨.tuple #[.agg #[.int .i64 (((capN 10) : Nat) : Int), .slice (some ⟨g210, o211, none⟩) ((capN 10 + 63) / 64) c212], .int .i64 (trnE (capN 10) 3 1)], rfl, ?_⟩
  replace hS := St.put (d := 13) (v := .tuple #[.agg #[.int .i64 (((capN 10) : Nat) : Int), .slice (some ⟨g210, o211, none⟩) ((capN 10 + 63) / 64) c212], .int .i64 (trnE (capN 10) 3 1)]) (hS.to (hS.mem.outF hF 1 rfl rfl hog hoh)) (by decide)
  clear hF
  refine St.ops 5 [⟨0, 0, 0⟩, ⟨0, 0, 0⟩, ⟨0, 0, 0⟩, ⟨0, 0, 2⟩, ⟨0, 0, 0⟩] [1, 2, 3] [0, 2, 3] hS fun _ => ⟨[(1, [], .pointer (some ⟨(ν2 0), 0, none⟩)), (2, [], .int .i64 (trnE (capN 10) 2 3)), (3, [], .int .i64 (trnE (capN 10) 3 1))], [(0, .fn 0 64 dbT), ((ν2 0), .cells [.int .i64 (((capN 10) : Nat) : Int), .slice (some ⟨g210, o211, none⟩) ((capN 10 + 63) / 64) c212] 26), (g210, .fn o211 (o211 + ((capN 10 + 63) / 64)) (u64s ws213 o211))], [(ν2 0) = (ν2 0), (ν2 0) = (ν2 0)], by as_aux_lemma => kernel_rfl, ⟨rfl, rfl, trivial⟩, fun ac wd hS => ?_⟩
  refine list_nil_seq ?_
  refine wp_region_seq ?_
  refine St.ops 1 [⟨0, 0, 1⟩] [1, 2, 3, 17] [0, 1, 2] hS fun _ => ⟨[(1, [], .pointer (some ⟨(ν2 0), 0, none⟩)), (2, [], .int .i64 (trnE (capN 10) 2 3)), (3, [], .int .i64 (trnE (capN 10) 3 1)), (17, [], .agg #[.int .i64 (((capN 10) : Nat) : Int), .slice (some ⟨g210, o211, none⟩) ((capN 10 + 63) / 64) c212])], [(0, .fn 0 64 dbT), ((ν2 0), .cells [.int .i64 (((capN 10) : Nat) : Int), .slice (some ⟨g210, o211, none⟩) ((capN 10 + 63) / 64) c212] 26), (g210, .fn o211 (o211 + ((capN 10 + 63) / 64)) (u64s ws213 o211))], [(ν2 0) = (ν2 0), (ν2 0) = (ν2 0)], by as_aux_lemma => kernel_rfl, ⟨rfl, rfl, trivial⟩, fun ac wd hS => ?_⟩
  refine St.call 0 0 hS (f := 10) (args := #[.agg #[.int .i64 (((capN 10) : Nat) : Int), .slice (some ⟨g210, o211, none⟩) ((capN 10 + 63) / 64) c212], .int .i64 3, .bool false]) (obs := []) (by as_aux_lemma => kernel_rfl) trivial (by as_aux_lemma => kernel_rfl) (bits_First g210 o211 c212 ((capN 10 + 63) / 64) _ (capN 10) 3 false (trn (trn (fun _ => false) (capN 10) 2 3 true) (capN 10) 3 1 false) _ (hS.mem.heap _ (List.mem_of_getElem? (i := 0) rfl)) (hS.mem.heap _ (List.mem_of_getElem? (i := 2) rfl)) (by first | assumption | exact capN_le _) (by first | assumption | exact capN_le _)) ?_
  rintro _ wd ⟨rfl, hF⟩
  refine ⟨.tuple #[.int .i64 (fst1 (trn (trn (fun _ => false) (capN 10) 2 3 true) (capN 10) 3 1 false) (capN 10) 3 false), .bool (fst2 (trn (trn (fun _ => false) (capN 10) 2 3 true) (capN 10) 3 1 false) (capN 10) 3 false)], rfl, ?_⟩
  replace hS := St.put (d := 18) (v := .tuple #[.int .i64 (fst1 (trn (trn (fun _ => false) (capN 10) 2 3 true) (capN 10) 3 1 false) (capN 10) 3 false), .bool (fst2 (trn (trn (fun _ => false) (capN 10) 2 3 true) (capN 10) 3 1 false) (capN 10) 3 false)]) (hS.to (hS.mem.keep0 hF)) (by decide)
  clear hF
  refine St.ops 5 [⟨0, 0, 0⟩, ⟨0, 0, 0⟩, ⟨0, 0, 0⟩, ⟨0, 0, 0⟩, ⟨0, 0, 0⟩] [1, 2, 3, 4, 5] [0, 1, 2] hS fun _ => ⟨[(1, [], .pointer (some ⟨(ν2 0), 0, none⟩)), (2, [], .int .i64 (trnE (capN 10) 2 3)), (3, [], .int .i64 (trnE (capN 10) 3 1)), (4, [], .int .i64 (fst1 (trn (trn (fun _ => false) (capN 10) 2 3 true) (capN 10) 3 1 false) (capN 10) 3 false)), (5, [], .bool (fst2 (trn (trn (fun _ => false) (capN 10) 2 3 true) (capN 10) 3 1 false) (capN 10) 3 false))], [(0, .fn 0 64 dbT), ((ν2 0), .cells [.int .i64 (((capN 10) : Nat) : Int), .slice (some ⟨g210, o211, none⟩) ((capN 10 + 63) / 64) c212] 26), (g210, .fn o211 (o211 + ((capN 10 + 63) / 64)) (u64s ws213 o211))], [], by as_aux_lemma => kernel_rfl, trivial, fun ac wd hS => ?_⟩
  refine list_nil_seq ?_
  refine wp_region_seq ?_
  refine St.ops 14 [⟨0, 0, 0⟩, ⟨0, 0, 0⟩, ⟨0, 0, 0⟩, ⟨3, 0, 0⟩, ⟨3, 0, 0⟩, ⟨0, 8, 0⟩, ⟨0, 0, 0⟩, ⟨3, 0, 0⟩, ⟨0, 8, 0⟩, ⟨0, 0, 0⟩, ⟨3, 0, 0⟩, ⟨3, 0, 0⟩, ⟨0, 8, 0⟩, ⟨0, 0, 0⟩] [1, 34] [0, 1, 2] hS fun _ => ⟨[(1, [], .pointer (some ⟨(ν2 0), 0, none⟩)), (34, [], .bool ((((((trnE (capN 10) 2 3) : Int) == 0) && (((trnE (capN 10) 3 1) : Int) == 0)) && (fst2 (trn (trn (fun _ => false) (capN 10) 2 3 true) (capN 10) 3 1 false) (capN 10) 3 false)) && (((fst1 (trn (trn (fun _ => false) (capN 10) 2 3 true) (capN 10) 3 1 false) (capN 10) 3 false) : Int) == 3)))], [(0, .fn 0 64 dbT), ((ν2 0), .cells [.int .i64 (((capN 10) : Nat) : Int), .slice (some ⟨g210, o211, none⟩) ((capN 10 + 63) / 64) c212] 26), (g210, .fn o211 (o211 + ((capN 10 + 63) / 64)) (u64s ws213 o211))], [], by as_aux_lemma => kernel_rfl, trivial, fun ac wd hS => ?_⟩
  have hg16 : ((((((trnE (capN 10) 2 3) : Int) == 0) && (((trnE (capN 10) 3 1) : Int) == 0)) && (fst2 (trn (trn (fun _ => false) (capN 10) 2 3 true) (capN 10) 3 1 false) (capN 10) 3 false)) && (((fst1 (trn (trn (fun _ => false) (capN 10) 2 3 true) (capN 10) 3 1 false) (capN 10) 3 false) : Int) == 3)) = true := by decide +kernel
  rw [hg16] at hS
  refine St.ops 1 [⟨1, 0, 1⟩] [34, 35] [0, 2] hS fun _ => ⟨[(34, [], .bool true), (35, [], .agg #[.int .i64 (((capN 10) : Nat) : Int), .slice (some ⟨g210, o211, none⟩) ((capN 10 + 63) / 64) c212])], [(0, .fn 0 64 dbT), (g210, .fn o211 (o211 + ((capN 10 + 63) / 64)) (u64s ws213 o211))], [(.bool true : Value) = .bool true, (ν2 0) = (ν2 0), (ν2 0) = (ν2 0)], by as_aux_lemma => kernel_rfl, ⟨rfl, rfl, rfl, trivial⟩, fun ac wd hS => ?_⟩
  refine St.call 1 0 hS (f := 17) (args := #[.agg #[.int .i64 (((capN 10) : Nat) : Int), .slice (some ⟨g210, o211, none⟩) ((capN 10 + 63) / 64) c212]]) (obs := [(.bool true : Value) = .bool true]) (by as_aux_lemma => kernel_rfl) ⟨rfl, trivial⟩ (by as_aux_lemma => kernel_rfl) (law02_rows_some g210 o211 c212 ((capN 10 + 63) / 64) _ (capN 10) (trn (trn (fun _ => false) (capN 10) 2 3 true) (capN 10) 3 1 false) _ (hS.mem.heap _ (List.mem_of_getElem? (i := 0) rfl)) (hS.mem.heap _ (List.mem_of_getElem? (i := 1) rfl)) (by first | assumption | exact capN_le _ | decide +kernel) (by first | assumption | exact capN_le _ | decide +kernel) (by first | assumption | exact capN_le _ | decide +kernel)) ?_
  rintro _ wd ⟨g217, c218, rfl, hog, hoh, hF⟩
  have ho19 : w.heap.size ≤ g217 := Nat.le_trans hS.mem.fr.size hog
  refine ⟨.slice (some ⟨g217, 0, none⟩) ((flat (runs (trn (trn (fun _ => false) (capN 10) 2 3 true) (capN 10) 3 1 false) (capN 10))).length) c218, rfl, ?_⟩
  replace hS := St.put (d := 36) (v := .slice (some ⟨g217, 0, none⟩) ((flat (runs (trn (trn (fun _ => false) (capN 10) 2 3 true) (capN 10) 3 1 false) (capN 10))).length) c218) (hS.to (hS.mem.outN hF hog hoh)) (by decide)
  clear hF
  refine St.ops 1 [⟨1, 0, 0⟩] [34, 36, 37] [0, 2, 3] hS fun ν9 => ⟨[(34, [], .bool true), (36, [], .slice (some ⟨g217, 0, none⟩) ((flat (runs (trn (trn (fun _ => false) (capN 10) 2 3 true) (capN 10) 3 1 false) (capN 10))).length) c218), (37, [], .slice (some ⟨(ν9 0), 0, none⟩) 4 4)], [(0, .fn 0 64 dbT), (g217, .fn 0 (0 + (flat (runs (trn (trn (fun _ => false) (capN 10) 2 3 true) (capN 10) 3 1 false) (capN 10))).length) (ints (flat (runs (trn (trn (fun _ => false) (capN 10) 2 3 true) (capN 10) 3 1 false) (capN 10))) 0)), ((ν9 0), .cells [.int .i64 2, .int .i64 1, .int .i64 4, .int .i64 1] 3)], [(.bool true : Value) = .bool true], by as_aux_lemma => kernel_rfl, ⟨rfl, trivial⟩, fun ac wd hS => ?_⟩
  refine St.call 1 0 hS (f := 22) (args := #[.slice (some ⟨g217, 0, none⟩) ((flat (runs (trn (trn (fun _ => false) (capN 10) 2 3 true) (capN 10) 3 1 false) (capN 10))).length) c218, .slice (some ⟨(ν9 0), 0, none⟩) 4 4]) (obs := [(.bool true : Value) = .bool true]) (by as_aux_lemma => kernel_rfl) ⟨rfl, trivial⟩ (by as_aux_lemma => kernel_rfl) (slices_EqualI g217 0 c218 (flat (runs (trn (trn (fun _ => false) (capN 10) 2 3 true) (capN 10) 3 1 false) (capN 10))) (ν9 0) 0 4 ([2, 1, 4, 1]) _ (hS.mem.heap _ (List.mem_of_getElem? (i := 1) rfl)) (HE.of_cells (hS.mem.heap _ (List.mem_of_getElem? (i := 2) rfl)) (fun o ho => by have ho : o < 4 := ho; rcases (by omega : o = 0 ∨ o = 1 ∨ o = 2 ∨ o = 3) with rfl | rfl | rfl | rfl <;> rfl)) (by decide +kernel)) ?_
  rintro _ wd ⟨rfl, hF⟩
  refine ⟨.bool ((flat (runs (trn (trn (fun _ => false) (capN 10) 2 3 true) (capN 10) 3 1 false) (capN 10))) == ([2, 1, 4, 1])), rfl, ?_⟩
  replace hS := St.put (d := 38) (v := .bool ((flat (runs (trn (trn (fun _ => false) (capN 10) 2 3 true) (capN 10) 3 1 false) (capN 10))) == ([2, 1, 4, 1]))) (hS.to (hS.mem.keep0 hF)) (by decide)
  clear hF
  refine St.ops 2 [⟨0, 7, 0⟩, ⟨0, 0, 0⟩] [0] [0] hS fun _ => ⟨[(0, [], .bool ((flat (runs (trn (trn (fun _ => false) (capN 10) 2 3 true) (capN 10) 3 1 false) (capN 10))) == ([2, 1, 4, 1])))], [(0, .fn 0 64 dbT)], [(.bool true : Value) = .bool true], by as_aux_lemma => kernel_rfl, ⟨rfl, trivial⟩, fun ac wd hS => ?_⟩
  refine list_nil_seq ?_
  refine wp_ret ?_
  refine St.ret 0 hS (v := .bool ((flat (runs (trn (trn (fun _ => false) (capN 10) 2 3 true) (capN 10) 3 1 false) (capN 10))) == ([2, 1, 4, 1]))) (obs := []) (by as_aux_lemma => kernel_rfl) trivial fun hw => ?_
  refine ⟨retd (vbool ?_), hw.fr⟩
  all_goals (first | rfl | decide +kernel)

end Go.Proofs.YtdjdgdkkhadkoaaDoor.K
