import Derived.Test.YtdjdgdkkhadkoaaDoorBtW1
import Derived.Test.YtdjdgdkkhadkoaaDoorBtW2
import Derived.Test.YtdjdgdkkhadkoaaDoorBt
import Derived.Test.YtdjdgdkkhadkoaaDoorKg
import Derived.Test.YtdjdgdkkhadkoaaDoorProg
namespace Go.Proofs.YtdjdgdkkhadkoaaDoor.K
set_option linter.unusedVariables false
set_option linter.unusedSimpArgs false

set_option maxRecDepth 100000 in
set_option maxHeartbeats 1000000 in
theorem bits_First (g : Nat) (o : Nat) (c : Nat) (nw : Nat) (ws : Nat → Nat) (n : Nat) (f : Int) (v : Bool) (p : Nat → Bool) (w : World) (hh0 : HE.holds w 0 (.fn 0 64 dbT)) (hh1 : HE.holds w g (.fn o (o + nw) (u64s ws o))) (hW : Words ws nw n p) (hn : n ≤ 1048576) :
    Calls Tryd.prog 10 #[.agg #[.int .i64 ((n : Nat) : Int), .slice (some ⟨g, o, none⟩) nw c], .int .i64 f, .bool v] w fun e w' => e = .returned (.tuple #[.int .i64 (fst1 p n f v), .bool (fst2 p n f v)]) ∧ Fr w w' [] [] := by
  have hnw := hW.many
  have hsm := hW.small
  refine enter (args := [.agg #[.int .i64 ((n : Nat) : Int), .slice (some ⟨g, o, none⟩) nw c], .int .i64 f, .bool v]) (A := []) Tryd.func10 rfl 46 rfl [(0, .fn 0 64 dbT), (g, .fn o (o + nw) (u64s ws o))] (WS.startL ⟨⟨rfl, hh0⟩, ⟨rfl, hh1⟩, trivial⟩) fun ac hS => ?_
  refine St.region_seq [⟨0, 0, 0⟩, ⟨0, 0, 0⟩, ⟨0, 0, 0⟩] [1, 2, 3] [0, 1, 2] hS fun ν1 => ⟨[(1, [], .int .i64 f), (2, [], .bool v), (3, [], .pointer (some ⟨(ν1 0), 0, none⟩))], [(0, .fn 0 64 dbT), (g, .fn o (o + nw) (u64s ws o)), ((ν1 0), .cells [.int .i64 ((n : Nat) : Int), .slice (some ⟨g, o, none⟩) nw c] 26)], [], by as_aux_lemma => kernel_rfl, trivial, fun ac wd hS => ?_⟩
  refine wp_seq ?_
  refine St.region_seq [⟨0, 0, 0⟩, ⟨0, 0, 0⟩, ⟨0, 0, 0⟩] [2, 3, 8] [0, 1, 2] hS fun _ => ⟨[(2, [], .bool v), (3, [], .pointer (some ⟨(ν1 0), 0, none⟩)), (8, [], .int .i64 (imax 0 f))], [(0, .fn 0 64 dbT), (g, .fn o (o + nw) (u64s ws o)), ((ν1 0), .cells [.int .i64 ((n : Nat) : Int), .slice (some ⟨g, o, none⟩) nw c] 26)], [], by as_aux_lemma => kernel_rfl, trivial, fun ac wd hS => ?_⟩
  refine wp_block ?_
  refine St.loop (σ := Int) (fun (x : Int) => match x with | x8 => [(2, [], .bool v), (3, [], .pointer (some ⟨(ν1 0), 0, none⟩)), (8, [], .int .i64 x8)]) (fun (x : Int) => match x with | x8 => [(0, .fn 0 64 dbT), (g, .fn o (o + nw) (u64s ws o)), ((ν1 0), .cells [.int .i64 ((n : Nat) : Int), .slice (some ⟨g, o, none⟩) nw c] 26)]) (fun (x : Int) => match x with | x8 => []) (fun (x : Int) => match x with | x8 => (0 ≤ x8) ∧ (nxt p v n (at0 f) = nxt p v n (Int.toNat x8) ∨ (n ≤ Int.toNat x8 ∧ n ≤ nxt p v n (at0 f)))) (fun (x : Int) => match x with | x8 => n + 64 - Int.toNat x8) (imax 0 f) ⟨(by first | (unfold imax; split <;> omega) | exact .inl rfl), (by first | (unfold imax; split <;> omega) | exact .inl rfl)⟩ hS ?_
  clear hS
  rintro x8 ⟨i0, i1⟩ ac wd hS
  replace hS : St _ 46 [(2, [], .bool v), (3, [], .pointer (some ⟨(ν1 0), 0, none⟩)), (8, [], .int .i64 x8)] [(0, .fn 0 64 dbT), (g, .fn o (o + nw) (u64s ws o)), ((ν1 0), .cells [.int .i64 ((n : Nat) : Int), .slice (some ⟨g, o, none⟩) nw c] 26)] [] ac wd := hS
  replace i0 : 0 ≤ x8 := i0
  replace i1 : nxt p v n (at0 f) = nxt p v n (Int.toNat x8) ∨ (n ≤ Int.toNat x8 ∧ n ≤ nxt p v n (at0 f)) := i1
  have hfa := fun h => first_facts hW (i := x8) i0 h v
  refine wp_seq ?_
  refine St.region_seq [⟨0, 0, 0⟩, ⟨0, 0, 0⟩, ⟨0, 0, 2⟩, ⟨0, 0, 0⟩] [2, 3, 8, 15] [0, 1, 2] hS fun _ => ⟨[(2, [], .bool v), (3, [], .pointer (some ⟨(ν1 0), 0, none⟩)), (8, [], .int .i64 x8), (15, [], .bool (decide ((x8 : Int) < ((n : Nat) : Int))))], [(0, .fn 0 64 dbT), (g, .fn o (o + nw) (u64s ws o)), ((ν1 0), .cells [.int .i64 ((n : Nat) : Int), .slice (some ⟨g, o, none⟩) nw c] 26)], [(ν1 0) = (ν1 0)], by as_aux_lemma => kernel_rfl, ⟨rfl, trivial⟩, fun ac wd hS => ?_⟩
  refine St.cond (b := (decide ((x8 : Int) < ((n : Nat) : Int)))) hS (by as_aux_lemma => kernel_rfl) (fun hb1 => ?_) (fun hb1 => ?_)
  · have hb1o := hb1
    try simp only [decide_eq_true_eq, decide_eq_false_iff_not, beq_iff_eq, bne_iff_ne, beq_eq_false_iff_ne, bne_eq_false_iff_eq, Bool.and_eq_true, Bool.or_eq_true, Bool.and_eq_false_iff, Bool.or_eq_false_iff, Bool.not_eq_true', Bool.not_eq_false', ne_eq, Int.not_lt, Int.not_le, Bool.true_and, Bool.false_and, Bool.and_true, Bool.and_false, Bool.or_true, Bool.or_false, Bool.true_or, Bool.false_or, Bool.not_true, Bool.not_false] at hb1
    refine wp_skip ?_
    refine pop_then ?_
    refine wp_block ?_
    have ew2 : (IntKind.wrap .i64 (Int.tdiv x8 64)) = (x8 / 64) := quo_in (x := x8) (d := 64) (by omega) (by omega) (by omega)
    have ew3 : ((ws (o + Int.toNat (x8 / 64) * 1 - o) : Nat) : Int) = ((ws (Int.toNat (x8 / 64)) : Nat) : Int) := by rw [Nat.mul_one, Nat.add_sub_cancel_left]
    refine St.region_seq [⟨0, 0, 0⟩, ⟨0, 0, 2⟩, ⟨0, 0, 0⟩, ⟨0, 0, 0⟩, ⟨0, 2, 0⟩, ⟨0, 0, 1⟩, ⟨0, 0, 0⟩] [2, 3, 8, 9] [0, 1, 2] hS fun _ => ⟨[(2, [], .bool v), (3, [], .pointer (some ⟨(ν1 0), 0, none⟩)), (8, [], .int .i64 x8), (9, [], .int .u64 ((ws (o + Int.toNat (IntKind.wrap .i64 (Int.tdiv x8 64)) * 1 - o) : Nat) : Int))], [(0, .fn 0 64 dbT), (g, .fn o (o + nw) (u64s ws o)), ((ν1 0), .cells [.int .i64 ((n : Nat) : Int), .slice (some ⟨g, o, none⟩) nw c] 26)], [g = g, o ≤ o + Int.toNat (IntKind.wrap .i64 (Int.tdiv x8 64)) * 1 ∧ o + Int.toNat (IntKind.wrap .i64 (Int.tdiv x8 64)) * 1 < (o + nw), 0 ≤ (IntKind.wrap .i64 (Int.tdiv x8 64)) ∧ (IntKind.wrap .i64 (Int.tdiv x8 64)) < ((nw : Nat) : Int), (ν1 0) = (ν1 0)], by as_aux_lemma => kernel_rfl, ⟨rfl, (by (try simp only [ew2, ew3]); first | omega | (intro _; exact ⟨rfl, trivial⟩) | (simp; omega) | (simp_all; done) | (simp_all; omega)), (by (try simp only [ew2, ew3]); first | omega | (intro _; exact ⟨rfl, trivial⟩) | (simp; omega) | (simp_all; done) | (simp_all; omega)), rfl, trivial⟩, fun ac wd hS => ?_⟩
    simp only [ew2, ew3] at hS
    refine wp_seq ?_
    refine St.region_seq [⟨0, 0, 0⟩, ⟨0, 0, 0⟩] [2, 3, 8, 9, 23] [0, 1, 2] hS fun _ => ⟨[(2, [], .bool v), (3, [], .pointer (some ⟨(ν1 0), 0, none⟩)), (8, [], .int .i64 x8), (9, [], .int .u64 ((ws (Int.toNat (x8 / 64)) : Nat) : Int)), (23, [], .bool (!v))], [(0, .fn 0 64 dbT), (g, .fn o (o + nw) (u64s ws o)), ((ν1 0), .cells [.int .i64 ((n : Nat) : Int), .slice (some ⟨g, o, none⟩) nw c] 26)], [], by as_aux_lemma => kernel_rfl, trivial, fun ac wd hS => ?_⟩
    refine St.cond (b := (!v)) hS (by as_aux_lemma => kernel_rfl) (fun hb4 => ?_) (fun hb4 => ?_)
    · have hb4o := hb4
      try simp only [decide_eq_true_eq, decide_eq_false_iff_not, beq_iff_eq, bne_iff_ne, beq_eq_false_iff_ne, bne_eq_false_iff_eq, Bool.and_eq_true, Bool.or_eq_true, Bool.and_eq_false_iff, Bool.or_eq_false_iff, Bool.not_eq_true', Bool.not_eq_false', ne_eq, Int.not_lt, Int.not_le, Bool.true_and, Bool.false_and, Bool.and_true, Bool.and_false, Bool.or_true, Bool.or_false, Bool.true_or, Bool.false_or, Bool.not_true, Bool.not_false] at hb4
      have hwv : ∀ a, wv v a = flip a := fun a => by rw [hb4]; rfl
      simp only [hwv] at hfa
      have ew5 : (ixor .u64 18446744073709551615 ((ws (Int.toNat (x8 / 64)) : Nat) : Int)) = ((flip (ws (Int.toNat (x8 / 64))) : Nat) : Int) := ixor_ones (a := ws (Int.toNat (x8 / 64))) (by first | exact hW.small _ (by rw [hW.many]; omega) | exact flip_lt _ | (exact Nat.lt_of_le_of_lt (Nat.div_le_self _ _) (flip_lt _)) | (exact Nat.lt_of_le_of_lt (Nat.div_le_self _ _) (hW.small _ (by omega))) | (exact mkM_lt (by omega)) | omega)
      refine St.region [⟨0, 0, 0⟩, ⟨0, 0, 0⟩, ⟨0, 0, 0⟩] [2, 3, 8, 9] [0, 1, 2] hS fun _ => ⟨[(2, [], .bool v), (3, [], .pointer (some ⟨(ν1 0), 0, none⟩)), (8, [], .int .i64 x8), (9, [], .int .u64 (ixor .u64 18446744073709551615 ((ws (Int.toNat (x8 / 64)) : Nat) : Int)))], [(0, .fn 0 64 dbT), (g, .fn o (o + nw) (u64s ws o)), ((ν1 0), .cells [.int .i64 ((n : Nat) : Int), .slice (some ⟨g, o, none⟩) nw c] 26)], [], by as_aux_lemma => kernel_rfl, trivial, fun ac wd hS => ?_⟩
      simp only [ew5] at hS
      refine pop_then ?_
      refine wp_seq ?_
      have ew6 : (Int.tmod x8 64) = (x8 % 64) := rem_in (x := x8) (d := 64) (by omega)
      have ew7 : (Int.fdiv ((flip (ws (Int.toNat (x8 / 64))) : Nat) : Int) (2 ^ (min (Int.toNat (x8 % 64)) 64))) = (((flip (ws (Int.toNat (x8 / 64)))) / 2 ^ Int.toNat (x8 % 64) : Nat) : Int) := shr_u (a := flip (ws (Int.toNat (x8 / 64)))) (r := (x8 % 64)) (by omega) (by omega)
      refine St.region_seq [⟨0, 0, 0⟩, ⟨0, 0, 0⟩, ⟨0, 0, 0⟩, ⟨0, 1, 0⟩, ⟨0, 0, 0⟩] [2, 3, 8, 9] [0, 1, 2] hS fun _ => ⟨[(2, [], .bool v), (3, [], .pointer (some ⟨(ν1 0), 0, none⟩)), (8, [], .int .i64 x8), (9, [], .int .u64 (Int.fdiv ((flip (ws (Int.toNat (x8 / 64))) : Nat) : Int) (2 ^ (min (Int.toNat (Int.tmod x8 64)) 64))))], [(0, .fn 0 64 dbT), (g, .fn o (o + nw) (u64s ws o)), ((ν1 0), .cells [.int .i64 ((n : Nat) : Int), .slice (some ⟨g, o, none⟩) nw c] 26)], [0 ≤ (Int.tmod x8 64)], by as_aux_lemma => kernel_rfl, ⟨(by (try simp only [ew6, ew7]); first | omega | (intro _; exact ⟨rfl, trivial⟩) | (simp; omega) | (simp_all; done) | (simp_all; omega)), trivial⟩, fun ac wd hS => ?_⟩
      simp only [ew6, ew7] at hS
      refine St.region_seq [⟨0, 0, 0⟩, ⟨0, 0, 0⟩] [2, 3, 8, 9, 31] [0, 1, 2] hS fun _ => ⟨[(2, [], .bool v), (3, [], .pointer (some ⟨(ν1 0), 0, none⟩)), (8, [], .int .i64 x8), (9, [], .int .u64 (((flip (ws (Int.toNat (x8 / 64)))) / 2 ^ Int.toNat (x8 % 64) : Nat) : Int)), (31, [], .bool (((((flip (ws (Int.toNat (x8 / 64)))) / 2 ^ Int.toNat (x8 % 64) : Nat) : Int) : Int) != 0))], [(0, .fn 0 64 dbT), (g, .fn o (o + nw) (u64s ws o)), ((ν1 0), .cells [.int .i64 ((n : Nat) : Int), .slice (some ⟨g, o, none⟩) nw c] 26)], [], by as_aux_lemma => kernel_rfl, trivial, fun ac wd hS => ?_⟩
      refine St.cond (b := (((((flip (ws (Int.toNat (x8 / 64)))) / 2 ^ Int.toNat (x8 % 64) : Nat) : Int) : Int) != 0)) hS (by as_aux_lemma => kernel_rfl) (fun hb8 => ?_) (fun hb8 => ?_)
      · have hb8o := hb8
        try simp only [decide_eq_true_eq, decide_eq_false_iff_not, beq_iff_eq, bne_iff_ne, beq_eq_false_iff_ne, bne_eq_false_iff_eq, Bool.and_eq_true, Bool.or_eq_true, Bool.and_eq_false_iff, Bool.or_eq_false_iff, Bool.not_eq_true', Bool.not_eq_false', ne_eq, Int.not_lt, Int.not_le, Bool.true_and, Bool.false_and, Bool.and_true, Bool.and_false, Bool.or_true, Bool.or_false, Bool.true_or, Bool.false_or, Bool.not_true, Bool.not_false] at hb8
        refine wp_seq ?_
        refine wp_region_seq ?_
        refine St.ops 2 [⟨0, 0, 0⟩, ⟨0, 0, 0⟩] [3, 8, 32, 33] [0, 1, 2] hS fun _ => ⟨[(3, [], .pointer (some ⟨(ν1 0), 0, none⟩)), (8, [], .int .i64 x8), (32, [], .int .i64 x8), (33, [], .int .u64 (((flip (ws (Int.toNat (x8 / 64)))) / 2 ^ Int.toNat (x8 % 64) : Nat) : Int))], [(0, .fn 0 64 dbT), (g, .fn o (o + nw) (u64s ws o)), ((ν1 0), .cells [.int .i64 ((n : Nat) : Int), .slice (some ⟨g, o, none⟩) nw c] 26)], [], by as_aux_lemma => kernel_rfl, trivial, fun ac wd hS => ?_⟩
        refine St.call 0 0 hS (f := 24) (args := #[.int .u64 (((flip (ws (Int.toNat (x8 / 64)))) / 2 ^ Int.toNat (x8 % 64) : Nat) : Int)]) (obs := []) (by as_aux_lemma => kernel_rfl) trivial (by as_aux_lemma => kernel_rfl) (bits_Tz ((flip (ws (Int.toNat (x8 / 64)))) / 2 ^ Int.toNat (x8 % 64)) _ (hS.mem.heap _ (List.mem_of_getElem? (i := 0) rfl)) (by first | exact (hfa (by omega)).1 | exact pos_of_cast (by assumption)) (by first | exact (hfa (by omega)).1 | exact pos_of_cast (by assumption))) ?_
        rintro _ wd ⟨rfl, hF⟩
        refine ⟨.int .i64 ((tz ((flip (ws (Int.toNat (x8 / 64)))) / 2 ^ Int.toNat (x8 % 64)) : Nat) : Int), rfl, ?_⟩
        replace hS := St.put (d := 34) (v := .int .i64 ((tz ((flip (ws (Int.toNat (x8 / 64)))) / 2 ^ Int.toNat (x8 % 64)) : Nat) : Int)) (hS.to (hS.mem.keep0 hF)) (by decide)
        clear hF
        have ew9 : (IntKind.wrap .i64 (x8 + ((tz ((flip (ws (Int.toNat (x8 / 64)))) / 2 ^ Int.toNat (x8 % 64)) : Nat) : Int))) = (x8 + ((tz ((flip (ws (Int.toNat (x8 / 64)))) / 2 ^ Int.toNat (x8 % 64)) : Nat) : Int)) := i64_in (x := (x8 + ((tz ((flip (ws (Int.toNat (x8 / 64)))) / 2 ^ Int.toNat (x8 % 64)) : Nat) : Int))) (by omega)
        refine St.ops 2 [⟨0, 0, 0⟩, ⟨0, 0, 0⟩] [3, 8] [0, 1, 2] hS fun _ => ⟨[(3, [], .pointer (some ⟨(ν1 0), 0, none⟩)), (8, [], .int .i64 (IntKind.wrap .i64 (x8 + ((tz ((flip (ws (Int.toNat (x8 / 64)))) / 2 ^ Int.toNat (x8 % 64)) : Nat) : Int))))], [(0, .fn 0 64 dbT), (g, .fn o (o + nw) (u64s ws o)), ((ν1 0), .cells [.int .i64 ((n : Nat) : Int), .slice (some ⟨g, o, none⟩) nw c] 26)], [], by as_aux_lemma => kernel_rfl, trivial, fun ac wd hS => ?_⟩
        simp only [ew9] at hS
        refine list_nil_seq ?_
        refine St.region_seq [⟨0, 0, 0⟩, ⟨0, 0, 0⟩, ⟨0, 0, 2⟩, ⟨0, 0, 0⟩] [8, 39] [0] hS fun _ => ⟨[(8, [], .int .i64 (x8 + ((tz ((flip (ws (Int.toNat (x8 / 64)))) / 2 ^ Int.toNat (x8 % 64)) : Nat) : Int))), (39, [], .bool (decide (((x8 + ((tz ((flip (ws (Int.toNat (x8 / 64)))) / 2 ^ Int.toNat (x8 % 64)) : Nat) : Int)) : Int) < ((n : Nat) : Int))))], [(0, .fn 0 64 dbT)], [(ν1 0) = (ν1 0)], by as_aux_lemma => kernel_rfl, ⟨rfl, trivial⟩, fun ac wd hS => ?_⟩
        refine St.cond (b := (decide (((x8 + ((tz ((flip (ws (Int.toNat (x8 / 64)))) / 2 ^ Int.toNat (x8 % 64)) : Nat) : Int)) : Int) < ((n : Nat) : Int)))) hS (by as_aux_lemma => kernel_rfl) (fun hb10 => ?_) (fun hb10 => ?_)
        · have hb10o := hb10
          try simp only [decide_eq_true_eq, decide_eq_false_iff_not, beq_iff_eq, bne_iff_ne, beq_eq_false_iff_ne, bne_eq_false_iff_eq, Bool.and_eq_true, Bool.or_eq_true, Bool.and_eq_false_iff, Bool.or_eq_false_iff, Bool.not_eq_true', Bool.not_eq_false', ne_eq, Int.not_lt, Int.not_le, Bool.true_and, Bool.false_and, Bool.and_true, Bool.and_false, Bool.or_true, Bool.or_false, Bool.true_or, Bool.false_or, Bool.not_true, Bool.not_false] at hb10
          refine St.region_seq [⟨0, 0, 0⟩, ⟨0, 0, 0⟩, ⟨0, 0, 0⟩] [6, 7] [0] hS fun _ => ⟨[(6, [], .int .i64 (x8 + ((tz ((flip (ws (Int.toNat (x8 / 64)))) / 2 ^ Int.toNat (x8 % 64)) : Nat) : Int))), (7, [], .bool true)], [(0, .fn 0 64 dbT)], [], by as_aux_lemma => kernel_rfl, trivial, fun ac wd hS => ?_⟩
          refine wp_ret ?_
          refine pop_then_ret ?_
          refine pop_then_ret ?_
          refine pop_block_ret ?_
          refine pop_then_ret ?_
          refine pop_block_ret ?_
          refine pop_then_ret ?_
          refine St.ret 0 hS (v := .tuple #[.int .i64 (x8 + ((tz ((flip (ws (Int.toNat (x8 / 64)))) / 2 ^ Int.toNat (x8 % 64)) : Nat) : Int)), .bool true]) (obs := []) (by as_aux_lemma => kernel_rfl) trivial fun hw => ?_
          refine ⟨retd (tuple2 (vint ?_) (vbool ?_)), hw.fr⟩
          all_goals (first | exact (fst_yes (by obtain ⟨q1, q2, q3⟩ := hfa (by omega); obtain ⟨r1, r2, r3⟩ := q3 (by assumption); have := r2 (by omega); omega) (by omega)).1 | exact (fst_yes (y := ((nxt p v n (at0 f) : Nat) : Int)) rfl (by obtain ⟨q1, q2, q3⟩ := hfa (by omega); obtain ⟨r1, r2, r3⟩ := q3 (by assumption); have := r2 (by omega); omega)).2 | exact (fst_no (by have e_ := nxt_past (p := p) (v := v) (n := n) (i := Int.toNat x8) (by omega); rcases i1 with h | h <;> omega)).1 | exact (fst_no (by have e_ := nxt_past (p := p) (v := v) (n := n) (i := Int.toNat x8) (by omega); rcases i1 with h | h <;> omega)).2 | exact (fst_no (by obtain ⟨q1, q2, q3⟩ := hfa (by omega); obtain ⟨r1, r2, r3⟩ := q3 (by assumption); have := r3 (by omega); omega)).1 | exact (fst_no (by obtain ⟨q1, q2, q3⟩ := hfa (by omega); obtain ⟨r1, r2, r3⟩ := q3 (by assumption); have := r3 (by omega); omega)).2)
        · have hb10o := hb10
          try simp only [decide_eq_true_eq, decide_eq_false_iff_not, beq_iff_eq, bne_iff_ne, beq_eq_false_iff_ne, bne_eq_false_iff_eq, Bool.and_eq_true, Bool.or_eq_true, Bool.and_eq_false_iff, Bool.or_eq_false_iff, Bool.not_eq_true', Bool.not_eq_false', ne_eq, Int.not_lt, Int.not_le, Bool.true_and, Bool.false_and, Bool.and_true, Bool.and_false, Bool.or_true, Bool.or_false, Bool.true_or, Bool.false_or, Bool.not_true, Bool.not_false] at hb10
          refine wp_skip ?_
          refine pop_then ?_
          refine wp_exit ?_
          refine pop_then_exit ?_
          refine pop_block_miss rfl ?_
          refine pop_then_exit ?_
          refine pop_block_hit ?_
          refine pop_then ?_
          refine St.region_seq [⟨0, 0, 0⟩, ⟨0, 0, 0⟩] [6, 7] [0] hS fun _ => ⟨[(6, [], .int .i64 0), (7, [], .bool false)], [(0, .fn 0 64 dbT)], [], by as_aux_lemma => kernel_rfl, trivial, fun ac wd hS => ?_⟩
          refine wp_ret ?_
          refine St.ret 0 hS (v := .tuple #[.int .i64 0, .bool false]) (obs := []) (by as_aux_lemma => kernel_rfl) trivial fun hw => ?_
          refine ⟨retd (tuple2 (vint ?_) (vbool ?_)), hw.fr⟩
          all_goals (first | exact (fst_yes (by obtain ⟨q1, q2, q3⟩ := hfa (by omega); obtain ⟨r1, r2, r3⟩ := q3 (by assumption); have := r2 (by omega); omega) (by omega)).1 | exact (fst_yes (y := ((nxt p v n (at0 f) : Nat) : Int)) rfl (by obtain ⟨q1, q2, q3⟩ := hfa (by omega); obtain ⟨r1, r2, r3⟩ := q3 (by assumption); have := r2 (by omega); omega)).2 | exact (fst_no (by have e_ := nxt_past (p := p) (v := v) (n := n) (i := Int.toNat x8) (by omega); rcases i1 with h | h <;> omega)).1 | exact (fst_no (by have e_ := nxt_past (p := p) (v := v) (n := n) (i := Int.toNat x8) (by omega); rcases i1 with h | h <;> omega)).2 | exact (fst_no (by obtain ⟨q1, q2, q3⟩ := hfa (by omega); obtain ⟨r1, r2, r3⟩ := q3 (by assumption); have := r3 (by omega); omega)).1 | exact (fst_no (by obtain ⟨q1, q2, q3⟩ := hfa (by omega); obtain ⟨r1, r2, r3⟩ := q3 (by assumption); have := r3 (by omega); omega)).2)
      · have hb8o := hb8
        try simp only [decide_eq_true_eq, decide_eq_false_iff_not, beq_iff_eq, bne_iff_ne, beq_eq_false_iff_ne, bne_eq_false_iff_eq, Bool.and_eq_true, Bool.or_eq_true, Bool.and_eq_false_iff, Bool.or_eq_false_iff, Bool.not_eq_true', Bool.not_eq_false', ne_eq, Int.not_lt, Int.not_le, Bool.true_and, Bool.false_and, Bool.and_true, Bool.and_false, Bool.or_true, Bool.or_false, Bool.true_or, Bool.false_or, Bool.not_true, Bool.not_false] at hb8
        refine wp_skip ?_
        refine pop_then ?_
        have ew11 : (Int.tmod x8 64) = (x8 % 64) := rem_in (x := x8) (d := 64) (by omega)
        have ew12 : (IntKind.wrap .i64 (64 - (x8 % 64))) = (64 - (x8 % 64)) := i64_in (x := (64 - (x8 % 64))) (by omega)
        have ew13 : (IntKind.wrap .i64 (x8 + (64 - (x8 % 64)))) = (x8 + (64 - (x8 % 64))) := i64_in (x := (x8 + (64 - (x8 % 64)))) (by omega)
        refine St.region [⟨0, 0, 0⟩, ⟨0, 0, 0⟩, ⟨0, 0, 0⟩, ⟨0, 0, 0⟩, ⟨0, 0, 0⟩, ⟨0, 0, 0⟩] [2, 3, 8] [0, 1, 2] hS fun _ => ⟨[(2, [], .bool v), (3, [], .pointer (some ⟨(ν1 0), 0, none⟩)), (8, [], .int .i64 (IntKind.wrap .i64 (x8 + (IntKind.wrap .i64 (64 - (Int.tmod x8 64))))))], [(0, .fn 0 64 dbT), (g, .fn o (o + nw) (u64s ws o)), ((ν1 0), .cells [.int .i64 ((n : Nat) : Int), .slice (some ⟨g, o, none⟩) nw c] 26)], [], by as_aux_lemma => kernel_rfl, trivial, fun ac wd hS => ?_⟩
        simp only [ew11, ew12, ew13] at hS
        refine pop_block ?_
        exact pop_then ⟨(x8 + (64 - (x8 % 64))), ⟨(by first | omega | assumption | (simp; done) | (simp; omega)), (by obtain ⟨q1, q2, q3⟩ := hfa (by omega); have := q2 (by assumption); omega)⟩, (by first | omega | (simp; omega) | (simp only []; omega)), hS⟩
    · have hb4o := hb4
      try simp only [decide_eq_true_eq, decide_eq_false_iff_not, beq_iff_eq, bne_iff_ne, beq_eq_false_iff_ne, bne_eq_false_iff_eq, Bool.and_eq_true, Bool.or_eq_true, Bool.and_eq_false_iff, Bool.or_eq_false_iff, Bool.not_eq_true', Bool.not_eq_false', ne_eq, Int.not_lt, Int.not_le, Bool.true_and, Bool.false_and, Bool.and_true, Bool.and_false, Bool.or_true, Bool.or_false, Bool.true_or, Bool.false_or, Bool.not_true, Bool.not_false] at hb4
      have hwv : ∀ a, wv v a = a := fun a => by rw [hb4]; rfl
      simp only [hwv] at hfa
      refine wp_skip ?_
      refine pop_then ?_
      refine wp_seq ?_
      have ew14 : (Int.tmod x8 64) = (x8 % 64) := rem_in (x := x8) (d := 64) (by omega)
      have ew15 : (Int.fdiv ((ws (Int.toNat (x8 / 64)) : Nat) : Int) (2 ^ (min (Int.toNat (x8 % 64)) 64))) = (((ws (Int.toNat (x8 / 64))) / 2 ^ Int.toNat (x8 % 64) : Nat) : Int) := shr_u (a := ws (Int.toNat (x8 / 64))) (r := (x8 % 64)) (by omega) (by omega)
      refine St.region_seq [⟨0, 0, 0⟩, ⟨0, 0, 0⟩, ⟨0, 0, 0⟩, ⟨0, 1, 0⟩, ⟨0, 0, 0⟩] [2, 3, 8, 9] [0, 1, 2] hS fun _ => ⟨[(2, [], .bool v), (3, [], .pointer (some ⟨(ν1 0), 0, none⟩)), (8, [], .int .i64 x8), (9, [], .int .u64 (Int.fdiv ((ws (Int.toNat (x8 / 64)) : Nat) : Int) (2 ^ (min (Int.toNat (Int.tmod x8 64)) 64))))], [(0, .fn 0 64 dbT), (g, .fn o (o + nw) (u64s ws o)), ((ν1 0), .cells [.int .i64 ((n : Nat) : Int), .slice (some ⟨g, o, none⟩) nw c] 26)], [0 ≤ (Int.tmod x8 64)], by as_aux_lemma => kernel_rfl, ⟨(by (try simp only [ew14, ew15]); first | omega | (intro _; exact ⟨rfl, trivial⟩) | (simp; omega) | (simp_all; done) | (simp_all; omega)), trivial⟩, fun ac wd hS => ?_⟩
      simp only [ew14, ew15] at hS
      refine St.region_seq [⟨0, 0, 0⟩, ⟨0, 0, 0⟩] [2, 3, 8, 9, 31] [0, 1, 2] hS fun _ => ⟨[(2, [], .bool v), (3, [], .pointer (some ⟨(ν1 0), 0, none⟩)), (8, [], .int .i64 x8), (9, [], .int .u64 (((ws (Int.toNat (x8 / 64))) / 2 ^ Int.toNat (x8 % 64) : Nat) : Int)), (31, [], .bool (((((ws (Int.toNat (x8 / 64))) / 2 ^ Int.toNat (x8 % 64) : Nat) : Int) : Int) != 0))], [(0, .fn 0 64 dbT), (g, .fn o (o + nw) (u64s ws o)), ((ν1 0), .cells [.int .i64 ((n : Nat) : Int), .slice (some ⟨g, o, none⟩) nw c] 26)], [], by as_aux_lemma => kernel_rfl, trivial, fun ac wd hS => ?_⟩
      refine St.cond (b := (((((ws (Int.toNat (x8 / 64))) / 2 ^ Int.toNat (x8 % 64) : Nat) : Int) : Int) != 0)) hS (by as_aux_lemma => kernel_rfl) (fun hb16 => ?_) (fun hb16 => ?_)
      · have hb16o := hb16
        try simp only [decide_eq_true_eq, decide_eq_false_iff_not, beq_iff_eq, bne_iff_ne, beq_eq_false_iff_ne, bne_eq_false_iff_eq, Bool.and_eq_true, Bool.or_eq_true, Bool.and_eq_false_iff, Bool.or_eq_false_iff, Bool.not_eq_true', Bool.not_eq_false', ne_eq, Int.not_lt, Int.not_le, Bool.true_and, Bool.false_and, Bool.and_true, Bool.and_false, Bool.or_true, Bool.or_false, Bool.true_or, Bool.false_or, Bool.not_true, Bool.not_false] at hb16
        refine wp_seq ?_
        refine wp_region_seq ?_
        refine St.ops 2 [⟨0, 0, 0⟩, ⟨0, 0, 0⟩] [3, 8, 32, 33] [0, 1, 2] hS fun _ => ⟨[(3, [], .pointer (some ⟨(ν1 0), 0, none⟩)), (8, [], .int .i64 x8), (32, [], .int .i64 x8), (33, [], .int .u64 (((ws (Int.toNat (x8 / 64))) / 2 ^ Int.toNat (x8 % 64) : Nat) : Int))], [(0, .fn 0 64 dbT), (g, .fn o (o + nw) (u64s ws o)), ((ν1 0), .cells [.int .i64 ((n : Nat) : Int), .slice (some ⟨g, o, none⟩) nw c] 26)], [], by as_aux_lemma => kernel_rfl, trivial, fun ac wd hS => ?_⟩
        refine St.call 0 0 hS (f := 24) (args := #[.int .u64 (((ws (Int.toNat (x8 / 64))) / 2 ^ Int.toNat (x8 % 64) : Nat) : Int)]) (obs := []) (by as_aux_lemma => kernel_rfl) trivial (by as_aux_lemma => kernel_rfl) (bits_Tz ((ws (Int.toNat (x8 / 64))) / 2 ^ Int.toNat (x8 % 64)) _ (hS.mem.heap _ (List.mem_of_getElem? (i := 0) rfl)) (by first | exact (hfa (by omega)).1 | exact pos_of_cast (by assumption)) (by first | exact (hfa (by omega)).1 | exact pos_of_cast (by assumption))) ?_
        rintro _ wd ⟨rfl, hF⟩
        refine ⟨.int .i64 ((tz ((ws (Int.toNat (x8 / 64))) / 2 ^ Int.toNat (x8 % 64)) : Nat) : Int), rfl, ?_⟩
        replace hS := St.put (d := 34) (v := .int .i64 ((tz ((ws (Int.toNat (x8 / 64))) / 2 ^ Int.toNat (x8 % 64)) : Nat) : Int)) (hS.to (hS.mem.keep0 hF)) (by decide)
        clear hF
        have ew17 : (IntKind.wrap .i64 (x8 + ((tz ((ws (Int.toNat (x8 / 64))) / 2 ^ Int.toNat (x8 % 64)) : Nat) : Int))) = (x8 + ((tz ((ws (Int.toNat (x8 / 64))) / 2 ^ Int.toNat (x8 % 64)) : Nat) : Int)) := i64_in (x := (x8 + ((tz ((ws (Int.toNat (x8 / 64))) / 2 ^ Int.toNat (x8 % 64)) : Nat) : Int))) (by omega)
        refine St.ops 2 [⟨0, 0, 0⟩, ⟨0, 0, 0⟩] [3, 8] [0, 1, 2] hS fun _ => ⟨[(3, [], .pointer (some ⟨(ν1 0), 0, none⟩)), (8, [], .int .i64 (IntKind.wrap .i64 (x8 + ((tz ((ws (Int.toNat (x8 / 64))) / 2 ^ Int.toNat (x8 % 64)) : Nat) : Int))))], [(0, .fn 0 64 dbT), (g, .fn o (o + nw) (u64s ws o)), ((ν1 0), .cells [.int .i64 ((n : Nat) : Int), .slice (some ⟨g, o, none⟩) nw c] 26)], [], by as_aux_lemma => kernel_rfl, trivial, fun ac wd hS => ?_⟩
        simp only [ew17] at hS
        refine list_nil_seq ?_
        refine St.region_seq [⟨0, 0, 0⟩, ⟨0, 0, 0⟩, ⟨0, 0, 2⟩, ⟨0, 0, 0⟩] [8, 39] [0] hS fun _ => ⟨[(8, [], .int .i64 (x8 + ((tz ((ws (Int.toNat (x8 / 64))) / 2 ^ Int.toNat (x8 % 64)) : Nat) : Int))), (39, [], .bool (decide (((x8 + ((tz ((ws (Int.toNat (x8 / 64))) / 2 ^ Int.toNat (x8 % 64)) : Nat) : Int)) : Int) < ((n : Nat) : Int))))], [(0, .fn 0 64 dbT)], [(ν1 0) = (ν1 0)], by as_aux_lemma => kernel_rfl, ⟨rfl, trivial⟩, fun ac wd hS => ?_⟩
        refine St.cond (b := (decide (((x8 + ((tz ((ws (Int.toNat (x8 / 64))) / 2 ^ Int.toNat (x8 % 64)) : Nat) : Int)) : Int) < ((n : Nat) : Int)))) hS (by as_aux_lemma => kernel_rfl) (fun hb18 => ?_) (fun hb18 => ?_)
        · have hb18o := hb18
          try simp only [decide_eq_true_eq, decide_eq_false_iff_not, beq_iff_eq, bne_iff_ne, beq_eq_false_iff_ne, bne_eq_false_iff_eq, Bool.and_eq_true, Bool.or_eq_true, Bool.and_eq_false_iff, Bool.or_eq_false_iff, Bool.not_eq_true', Bool.not_eq_false', ne_eq, Int.not_lt, Int.not_le, Bool.true_and, Bool.false_and, Bool.and_true, Bool.and_false, Bool.or_true, Bool.or_false, Bool.true_or, Bool.false_or, Bool.not_true, Bool.not_false] at hb18
          refine St.region_seq [⟨0, 0, 0⟩, ⟨0, 0, 0⟩, ⟨0, 0, 0⟩] [6, 7] [0] hS fun _ => ⟨[(6, [], .int .i64 (x8 + ((tz ((ws (Int.toNat (x8 / 64))) / 2 ^ Int.toNat (x8 % 64)) : Nat) : Int))), (7, [], .bool true)], [(0, .fn 0 64 dbT)], [], by as_aux_lemma => kernel_rfl, trivial, fun ac wd hS => ?_⟩
          refine wp_ret ?_
          refine pop_then_ret ?_
          refine pop_then_ret ?_
          refine pop_block_ret ?_
          refine pop_then_ret ?_
          refine pop_block_ret ?_
          refine pop_then_ret ?_
          refine St.ret 0 hS (v := .tuple #[.int .i64 (x8 + ((tz ((ws (Int.toNat (x8 / 64))) / 2 ^ Int.toNat (x8 % 64)) : Nat) : Int)), .bool true]) (obs := []) (by as_aux_lemma => kernel_rfl) trivial fun hw => ?_
          refine ⟨retd (tuple2 (vint ?_) (vbool ?_)), hw.fr⟩
          all_goals (first | exact (fst_yes (by obtain ⟨q1, q2, q3⟩ := hfa (by omega); obtain ⟨r1, r2, r3⟩ := q3 (by assumption); have := r2 (by omega); omega) (by omega)).1 | exact (fst_yes (y := ((nxt p v n (at0 f) : Nat) : Int)) rfl (by obtain ⟨q1, q2, q3⟩ := hfa (by omega); obtain ⟨r1, r2, r3⟩ := q3 (by assumption); have := r2 (by omega); omega)).2 | exact (fst_no (by have e_ := nxt_past (p := p) (v := v) (n := n) (i := Int.toNat x8) (by omega); rcases i1 with h | h <;> omega)).1 | exact (fst_no (by have e_ := nxt_past (p := p) (v := v) (n := n) (i := Int.toNat x8) (by omega); rcases i1 with h | h <;> omega)).2 | exact (fst_no (by obtain ⟨q1, q2, q3⟩ := hfa (by omega); obtain ⟨r1, r2, r3⟩ := q3 (by assumption); have := r3 (by omega); omega)).1 | exact (fst_no (by obtain ⟨q1, q2, q3⟩ := hfa (by omega); obtain ⟨r1, r2, r3⟩ := q3 (by assumption); have := r3 (by omega); omega)).2)
        · have hb18o := hb18
          try simp only [decide_eq_true_eq, decide_eq_false_iff_not, beq_iff_eq, bne_iff_ne, beq_eq_false_iff_ne, bne_eq_false_iff_eq, Bool.and_eq_true, Bool.or_eq_true, Bool.and_eq_false_iff, Bool.or_eq_false_iff, Bool.not_eq_true', Bool.not_eq_false', ne_eq, Int.not_lt, Int.not_le, Bool.true_and, Bool.false_and, Bool.and_true, Bool.and_false, Bool.or_true, Bool.or_false, Bool.true_or, Bool.false_or, Bool.not_true, Bool.not_false] at hb18
          refine wp_skip ?_
          refine pop_then ?_
          refine wp_exit ?_
          refine pop_then_exit ?_
          refine pop_block_miss rfl ?_
          refine pop_then_exit ?_
          refine pop_block_hit ?_
          refine pop_then ?_
          refine St.region_seq [⟨0, 0, 0⟩, ⟨0, 0, 0⟩] [6, 7] [0] hS fun _ => ⟨[(6, [], .int .i64 0), (7, [], .bool false)], [(0, .fn 0 64 dbT)], [], by as_aux_lemma => kernel_rfl, trivial, fun ac wd hS => ?_⟩
          refine wp_ret ?_
          refine St.ret 0 hS (v := .tuple #[.int .i64 0, .bool false]) (obs := []) (by as_aux_lemma => kernel_rfl) trivial fun hw => ?_
          refine ⟨retd (tuple2 (vint ?_) (vbool ?_)), hw.fr⟩
          all_goals (first | exact (fst_yes (by obtain ⟨q1, q2, q3⟩ := hfa (by omega); obtain ⟨r1, r2, r3⟩ := q3 (by assumption); have := r2 (by omega); omega) (by omega)).1 | exact (fst_yes (y := ((nxt p v n (at0 f) : Nat) : Int)) rfl (by obtain ⟨q1, q2, q3⟩ := hfa (by omega); obtain ⟨r1, r2, r3⟩ := q3 (by assumption); have := r2 (by omega); omega)).2 | exact (fst_no (by have e_ := nxt_past (p := p) (v := v) (n := n) (i := Int.toNat x8) (by omega); rcases i1 with h | h <;> omega)).1 | exact (fst_no (by have e_ := nxt_past (p := p) (v := v) (n := n) (i := Int.toNat x8) (by omega); rcases i1 with h | h <;> omega)).2 | exact (fst_no (by obtain ⟨q1, q2, q3⟩ := hfa (by omega); obtain ⟨r1, r2, r3⟩ := q3 (by assumption); have := r3 (by omega); omega)).1 | exact (fst_no (by obtain ⟨q1, q2, q3⟩ := hfa (by omega); obtain ⟨r1, r2, r3⟩ := q3 (by assumption); have := r3 (by omega); omega)).2)
      · have hb16o := hb16
        try simp only [decide_eq_true_eq, decide_eq_false_iff_not, beq_iff_eq, bne_iff_ne, beq_eq_false_iff_ne, bne_eq_false_iff_eq, Bool.and_eq_true, Bool.or_eq_true, Bool.and_eq_false_iff, Bool.or_eq_false_iff, Bool.not_eq_true', Bool.not_eq_false', ne_eq, Int.not_lt, Int.not_le, Bool.true_and, Bool.false_and, Bool.and_true, Bool.and_false, Bool.or_true, Bool.or_false, Bool.true_or, Bool.false_or, Bool.not_true, Bool.not_false] at hb16
        refine wp_skip ?_
        refine pop_then ?_
        have ew19 : (Int.tmod x8 64) = (x8 % 64) := rem_in (x := x8) (d := 64) (by omega)
        have ew20 : (IntKind.wrap .i64 (64 - (x8 % 64))) = (64 - (x8 % 64)) := i64_in (x := (64 - (x8 % 64))) (by omega)
        have ew21 : (IntKind.wrap .i64 (x8 + (64 - (x8 % 64)))) = (x8 + (64 - (x8 % 64))) := i64_in (x := (x8 + (64 - (x8 % 64)))) (by omega)
        refine St.region [⟨0, 0, 0⟩, ⟨0, 0, 0⟩, ⟨0, 0, 0⟩, ⟨0, 0, 0⟩, ⟨0, 0, 0⟩, ⟨0, 0, 0⟩] [2, 3, 8] [0, 1, 2] hS fun _ => ⟨[(2, [], .bool v), (3, [], .pointer (some ⟨(ν1 0), 0, none⟩)), (8, [], .int .i64 (IntKind.wrap .i64 (x8 + (IntKind.wrap .i64 (64 - (Int.tmod x8 64))))))], [(0, .fn 0 64 dbT), (g, .fn o (o + nw) (u64s ws o)), ((ν1 0), .cells [.int .i64 ((n : Nat) : Int), .slice (some ⟨g, o, none⟩) nw c] 26)], [], by as_aux_lemma => kernel_rfl, trivial, fun ac wd hS => ?_⟩
        simp only [ew19, ew20, ew21] at hS
        refine pop_block ?_
        exact pop_then ⟨(x8 + (64 - (x8 % 64))), ⟨(by first | omega | assumption | (simp; done) | (simp; omega)), (by obtain ⟨q1, q2, q3⟩ := hfa (by omega); have := q2 (by assumption); omega)⟩, (by first | omega | (simp; omega) | (simp only []; omega)), hS⟩
  · have hb1o := hb1
    try simp only [decide_eq_true_eq, decide_eq_false_iff_not, beq_iff_eq, bne_iff_ne, beq_eq_false_iff_ne, bne_eq_false_iff_eq, Bool.and_eq_true, Bool.or_eq_true, Bool.and_eq_false_iff, Bool.or_eq_false_iff, Bool.not_eq_true', Bool.not_eq_false', ne_eq, Int.not_lt, Int.not_le, Bool.true_and, Bool.false_and, Bool.and_true, Bool.and_false, Bool.or_true, Bool.or_false, Bool.true_or, Bool.false_or, Bool.not_true, Bool.not_false] at hb1
    refine wp_exit ?_
    refine pop_then_exit ?_
    refine pop_then_exit ?_
    refine pop_block_hit ?_
    refine pop_then ?_
    refine St.region_seq [⟨0, 0, 0⟩, ⟨0, 0, 0⟩] [6, 7] [0] hS fun _ => ⟨[(6, [], .int .i64 0), (7, [], .bool false)], [(0, .fn 0 64 dbT)], [], by as_aux_lemma => kernel_rfl, trivial, fun ac wd hS => ?_⟩
    refine wp_ret ?_
    refine St.ret 0 hS (v := .tuple #[.int .i64 0, .bool false]) (obs := []) (by as_aux_lemma => kernel_rfl) trivial fun hw => ?_
    refine ⟨retd (tuple2 (vint ?_) (vbool ?_)), hw.fr⟩
    all_goals (first | exact (fst_yes (by obtain ⟨q1, q2, q3⟩ := hfa (by omega); obtain ⟨r1, r2, r3⟩ := q3 (by assumption); have := r2 (by omega); omega) (by omega)).1 | exact (fst_yes (y := ((nxt p v n (at0 f) : Nat) : Int)) rfl (by obtain ⟨q1, q2, q3⟩ := hfa (by omega); obtain ⟨r1, r2, r3⟩ := q3 (by assumption); have := r2 (by omega); omega)).2 | exact (fst_no (by have e_ := nxt_past (p := p) (v := v) (n := n) (i := Int.toNat x8) (by omega); rcases i1 with h | h <;> omega)).1 | exact (fst_no (by have e_ := nxt_past (p := p) (v := v) (n := n) (i := Int.toNat x8) (by omega); rcases i1 with h | h <;> omega)).2 | exact (fst_no (by obtain ⟨q1, q2, q3⟩ := hfa (by omega); obtain ⟨r1, r2, r3⟩ := q3 (by assumption); have := r3 (by omega); omega)).1 | exact (fst_no (by obtain ⟨q1, q2, q3⟩ := hfa (by omega); obtain ⟨r1, r2, r3⟩ := q3 (by assumption); have := r3 (by omega); omega)).2)

set_option maxRecDepth 100000 in
set_option maxHeartbeats 1000000 in
theorem bits_first (g : Nat) (o : Nat) (c : Nat) (nw : Nat) (ws : Nat → Nat) (n : Nat) (f : Int) (v : Bool) (p : Nat → Bool) (w : World) (hh0 : HE.holds w 0 (.fn 0 64 dbT)) (hh1 : HE.holds w g (.fn o (o + nw) (u64s ws o))) (hW : Words ws nw n p) (hn : n ≤ 1048576) :
    Calls Tryd.prog 33 #[.agg #[.int .i64 ((n : Nat) : Int), .slice (some ⟨g, o, none⟩) nw c], .int .i64 f, .bool v] w fun e w' => e = .returned (.int .i64 (fst3 p n f v)) ∧ Fr w w' [] [] := by
  have hnw := hW.many
  have hsm := hW.small
  refine enter (args := [.agg #[.int .i64 ((n : Nat) : Int), .slice (some ⟨g, o, none⟩) nw c], .int .i64 f, .bool v]) (A := []) Tryd.func33 rfl 21 rfl [(0, .fn 0 64 dbT), (g, .fn o (o + nw) (u64s ws o))] (WS.startL ⟨⟨rfl, hh0⟩, ⟨rfl, hh1⟩, trivial⟩) fun ac hS => ?_
  refine St.region_seq [⟨0, 0, 0⟩, ⟨0, 0, 0⟩] [1, 2, 3] [0, 1, 2] hS fun ν1 => ⟨[(1, [], .int .i64 f), (2, [], .bool v), (3, [], .pointer (some ⟨(ν1 0), 0, none⟩))], [(0, .fn 0 64 dbT), (g, .fn o (o + nw) (u64s ws o)), ((ν1 0), .cells [.int .i64 ((n : Nat) : Int), .slice (some ⟨g, o, none⟩) nw c] 26)], [], by as_aux_lemma => kernel_rfl, trivial, fun ac wd hS => ?_⟩
  refine wp_region_seq ?_
  refine St.ops 3 [⟨0, 0, 2⟩, ⟨0, 0, 0⟩, ⟨0, 0, 0⟩] [3, 10, 11, 12] [0, 1, 2] hS fun _ => ⟨[(3, [], .pointer (some ⟨(ν1 0), 0, none⟩)), (10, [], .agg #[.int .i64 ((n : Nat) : Int), .slice (some ⟨g, o, none⟩) nw c]), (11, [], .int .i64 f), (12, [], .bool v)], [(0, .fn 0 64 dbT), (g, .fn o (o + nw) (u64s ws o)), ((ν1 0), .cells [.int .i64 ((n : Nat) : Int), .slice (some ⟨g, o, none⟩) nw c] 26)], [(ν1 0) = (ν1 0), (ν1 0) = (ν1 0)], by as_aux_lemma => kernel_rfl, ⟨rfl, rfl, trivial⟩, fun ac wd hS => ?_⟩
  refine St.call 0 0 hS (f := 10) (args := #[.agg #[.int .i64 ((n : Nat) : Int), .slice (some ⟨g, o, none⟩) nw c], .int .i64 f, .bool v]) (obs := []) (by as_aux_lemma => kernel_rfl) trivial (by as_aux_lemma => kernel_rfl) (bits_First g o c nw _ n f v p _ (hS.mem.heap _ (List.mem_of_getElem? (i := 0) rfl)) (hS.mem.heap _ (List.mem_of_getElem? (i := 1) rfl)) (by first | assumption | omega | (simp_all; done) | (simp_all; omega)) (by first | assumption | omega | (simp_all; done) | (simp_all; omega))) ?_
  rintro _ wd ⟨rfl, hF⟩
  refine ⟨.tuple #[.int .i64 (fst1 p n f v), .bool (fst2 p n f v)], rfl, ?_⟩
  replace hS := St.put (d := 13) (v := .tuple #[.int .i64 (fst1 p n f v), .bool (fst2 p n f v)]) (hS.to (hS.mem.keep0 hF)) (by decide)
  clear hF
  refine St.ops 5 [⟨0, 0, 0⟩, ⟨0, 0, 0⟩, ⟨0, 0, 0⟩, ⟨0, 0, 0⟩, ⟨0, 0, 0⟩] [3, 7, 8] [0, 1, 2] hS fun _ => ⟨[(3, [], .pointer (some ⟨(ν1 0), 0, none⟩)), (7, [], .int .i64 (fst1 p n f v)), (8, [], .bool (fst2 p n f v))], [(0, .fn 0 64 dbT), (g, .fn o (o + nw) (u64s ws o)), ((ν1 0), .cells [.int .i64 ((n : Nat) : Int), .slice (some ⟨g, o, none⟩) nw c] 26)], [], by as_aux_lemma => kernel_rfl, trivial, fun ac wd hS => ?_⟩
  refine list_nil_seq ?_
  refine wp_seq ?_
  refine St.region_seq [⟨0, 0, 0⟩, ⟨0, 0, 0⟩] [3, 7, 17] [0, 1, 2] hS fun _ => ⟨[(3, [], .pointer (some ⟨(ν1 0), 0, none⟩)), (7, [], .int .i64 (fst1 p n f v)), (17, [], .bool (!(fst2 p n f v)))], [(0, .fn 0 64 dbT), (g, .fn o (o + nw) (u64s ws o)), ((ν1 0), .cells [.int .i64 ((n : Nat) : Int), .slice (some ⟨g, o, none⟩) nw c] 26)], [], by as_aux_lemma => kernel_rfl, trivial, fun ac wd hS => ?_⟩
  refine St.cond (b := (!(fst2 p n f v))) hS (by as_aux_lemma => kernel_rfl) (fun hb1 => ?_) (fun hb1 => ?_)
  · have hb1o := hb1
    try simp only [decide_eq_true_eq, decide_eq_false_iff_not, beq_iff_eq, bne_iff_ne, beq_eq_false_iff_ne, bne_eq_false_iff_eq, Bool.and_eq_true, Bool.or_eq_true, Bool.and_eq_false_iff, Bool.or_eq_false_iff, Bool.not_eq_true', Bool.not_eq_false', ne_eq, Int.not_lt, Int.not_le, Bool.true_and, Bool.false_and, Bool.and_true, Bool.and_false, Bool.or_true, Bool.or_false, Bool.true_or, Bool.false_or, Bool.not_true, Bool.not_false] at hb1
    refine St.region_seq [⟨0, 0, 0⟩, ⟨0, 0, 2⟩, ⟨0, 0, 0⟩] [6] [0] hS fun _ => ⟨[(6, [], .int .i64 ((n : Nat) : Int))], [(0, .fn 0 64 dbT)], [(ν1 0) = (ν1 0)], by as_aux_lemma => kernel_rfl, ⟨rfl, trivial⟩, fun ac wd hS => ?_⟩
    refine wp_ret ?_
    refine pop_then_ret ?_
    refine St.ret 0 hS (v := .int .i64 ((n : Nat) : Int)) (obs := []) (by as_aux_lemma => kernel_rfl) trivial fun hw => ?_
    refine ⟨retd (vint ?_), hw.fr⟩
    all_goals (first | (rw [fst3_eq]; simp_all; done))
  · have hb1o := hb1
    try simp only [decide_eq_true_eq, decide_eq_false_iff_not, beq_iff_eq, bne_iff_ne, beq_eq_false_iff_ne, bne_eq_false_iff_eq, Bool.and_eq_true, Bool.or_eq_true, Bool.and_eq_false_iff, Bool.or_eq_false_iff, Bool.not_eq_true', Bool.not_eq_false', ne_eq, Int.not_lt, Int.not_le, Bool.true_and, Bool.false_and, Bool.and_true, Bool.and_false, Bool.or_true, Bool.or_false, Bool.true_or, Bool.false_or, Bool.not_true, Bool.not_false] at hb1
    refine wp_skip ?_
    refine pop_then ?_
    refine St.region_seq [⟨0, 0, 0⟩, ⟨0, 0, 0⟩] [6] [0] hS fun _ => ⟨[(6, [], .int .i64 (fst1 p n f v))], [(0, .fn 0 64 dbT)], [], by as_aux_lemma => kernel_rfl, trivial, fun ac wd hS => ?_⟩
    refine wp_ret ?_
    refine St.ret 0 hS (v := .int .i64 (fst1 p n f v)) (obs := []) (by as_aux_lemma => kernel_rfl) trivial fun hw => ?_
    refine ⟨retd (vint ?_), hw.fr⟩
    all_goals (first | (rw [fst3_eq]; simp_all; done))

set_option maxRecDepth 100000 in
set_option maxHeartbeats 1000000 in
theorem bits_with1 (a : Nat) (m : Nat) (w : World) (ha : a < 2 ^ 64) (hm : m < 2 ^ 64) :
    Calls Tryd.prog 26 #[.int .u64 ((a : Nat) : Int), .int .u64 ((m : Nat) : Int)] w fun e w' => e = .returned (.int .u64 ((tOp true a m : Nat) : Int)) ∧ w' = w := by
  refine enter (args := [.int .u64 ((a : Nat) : Int), .int .u64 ((m : Nat) : Int)]) (A := []) Tryd.func26 rfl 8 rfl [] (WS.start (AllAr.nil w)) fun ac hS => ?_
  refine St.still_seq [⟨0, 0, 0⟩] [0, 1] [] hS (E' := [(0, [], .int .u64 ((a : Nat) : Int)), (1, [], .int .u64 ((m : Nat) : Int))]) (H' := []) (obs := []) (by as_aux_lemma => kernel_rfl) (trivial : AllP []) fun ac hS => ?_
  have ew1 : (ior .u64 ((a : Nat) : Int) ((m : Nat) : Int)) = ((a ||| m : Nat) : Int) := ior_u (a := a) (b := m) (by omega) (by omega)
  refine St.still_seq [⟨0, 0, 0⟩, ⟨0, 0, 0⟩, ⟨0, 0, 0⟩, ⟨0, 0, 0⟩] [4] [] hS (E' := [(4, [], .int .u64 (ior .u64 ((a : Nat) : Int) ((m : Nat) : Int)))]) (H' := []) (obs := []) (by as_aux_lemma => kernel_rfl) (trivial : AllP []) fun ac hS => ?_
  simp only [ew1] at hS
  refine wp_ret ?_
  refine St.ret 0 hS (v := .int .u64 ((a ||| m : Nat) : Int)) (obs := []) (by as_aux_lemma => kernel_rfl) trivial fun hw => ?_
  refine ⟨retd (vint ?_), rfl⟩
  all_goals (first | rfl | (simp; done) | (simp; omega) | omega | (simp_all; done) | (simp_all; omega))

set_option maxRecDepth 100000 in
set_option maxHeartbeats 1000000 in
theorem bits_without1 (a : Nat) (m : Nat) (w : World) (ha : a < 2 ^ 64) (hm : m < 2 ^ 64) :
    Calls Tryd.prog 28 #[.int .u64 ((a : Nat) : Int), .int .u64 ((m : Nat) : Int)] w fun e w' => e = .returned (.int .u64 ((tOp false a m : Nat) : Int)) ∧ w' = w := by
  refine enter (args := [.int .u64 ((a : Nat) : Int), .int .u64 ((m : Nat) : Int)]) (A := []) Tryd.func28 rfl 8 rfl [] (WS.start (AllAr.nil w)) fun ac hS => ?_
  refine St.still_seq [⟨0, 0, 0⟩] [0, 1] [] hS (E' := [(0, [], .int .u64 ((a : Nat) : Int)), (1, [], .int .u64 ((m : Nat) : Int))]) (H' := []) (obs := []) (by as_aux_lemma => kernel_rfl) (trivial : AllP []) fun ac hS => ?_
  have ew1 : (iandNot .u64 ((a : Nat) : Int) ((m : Nat) : Int)) = ((without a m : Nat) : Int) := iandNot_u a m
  refine St.still_seq [⟨0, 0, 0⟩, ⟨0, 0, 0⟩, ⟨0, 0, 0⟩, ⟨0, 0, 0⟩] [4] [] hS (E' := [(4, [], .int .u64 (iandNot .u64 ((a : Nat) : Int) ((m : Nat) : Int)))]) (H' := []) (obs := []) (by as_aux_lemma => kernel_rfl) (trivial : AllP []) fun ac hS => ?_
  simp only [ew1] at hS
  refine wp_ret ?_
  refine St.ret 0 hS (v := .int .u64 ((without a m : Nat) : Int)) (obs := []) (by as_aux_lemma => kernel_rfl) trivial fun hw => ?_
  refine ⟨retd (vint ?_), rfl⟩
  all_goals (first | rfl | (simp; done) | (simp; omega) | omega | (simp_all; done) | (simp_all; omega))

end Go.Proofs.YtdjdgdkkhadkoaaDoor.K
