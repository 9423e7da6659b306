import Derived.Test.YtdjdgdkkhadkoaaSz
import Derived.Test.YtdjdgdkkhadkoaaProg
namespace Go.Proofs.Ytdjdgdkkhadkoaa.K
set_option linter.unusedVariables false
set_option linter.unusedSimpArgs false

set_option maxRecDepth 100000 in
set_option maxHeartbeats 4000000 in
theorem size_right (n : Int) (w : World) :
    Calls Try.prog 20 #[.int .i64 n] w fun e w' => e = .returned (.bool (isSize n)) ∧ Fr w w' [] [] := by
  refine enter (args := [.int .i64 n]) (A := []) Try.func20 rfl 9 rfl [] (WS.start (AllAr.nil w)) fun ac hS => ?_
  refine St.region_seq [⟨0, 0, 0⟩] [0] [] hS fun _ => ⟨[(0, [], .int .i64 n)], [], [], by as_aux_lemma => kernel_rfl, trivial, fun ac wd hS => ?_⟩
  refine St.region_seq [⟨0, 0, 0⟩, ⟨0, 0, 0⟩, ⟨0, 0, 0⟩, ⟨3, 0, 0⟩, ⟨3, 0, 0⟩, ⟨0, 8, 0⟩, ⟨0, 0, 0⟩] [2] [] hS fun _ => ⟨[(2, [], .bool ((decide ((0 : Int) ≤ n)) && (decide ((n : Int) ≤ 4294967296))))], [], [], by as_aux_lemma => kernel_rfl, trivial, fun ac wd hS => ?_⟩
  refine wp_ret ?_
  refine St.ret 0 hS (v := .bool ((decide ((0 : Int) ≤ n)) && (decide ((n : Int) ≤ 4294967296)))) (obs := []) (by as_aux_lemma => kernel_rfl) trivial fun hw => ?_
  refine ⟨retd (vbool ?_), hw.fr⟩
  all_goals (rfl)

set_option maxRecDepth 100000 in
set_option maxHeartbeats 4000000 in
theorem size_Whole (a : Int) (w : World) :
    Calls Try.prog 12 #[.int .i64 a] w fun e w' => e = .returned (.bool (whole a)) ∧ Fr w w' [] [] := by
  refine enter (args := [.int .i64 a]) (A := []) Try.func12 rfl 16 rfl [] (WS.start (AllAr.nil w)) fun ac hS => ?_
  refine St.region_seq [⟨0, 0, 0⟩] [0] [] hS fun _ => ⟨[(0, [], .int .i64 a)], [], [], by as_aux_lemma => kernel_rfl, trivial, fun ac wd hS => ?_⟩
  refine St.region_seq [⟨0, 0, 0⟩, ⟨0, 0, 0⟩, ⟨0, 0, 0⟩, ⟨3, 0, 0⟩, ⟨3, 0, 0⟩, ⟨0, 8, 0⟩, ⟨0, 0, 0⟩, ⟨3, 0, 0⟩, ⟨3, 0, 0⟩, ⟨3, 0, 0⟩, ⟨3, 0, 0⟩, ⟨3, 0, 0⟩, ⟨0, 8, 0⟩, ⟨0, 0, 0⟩] [2] [] hS fun _ => ⟨[(2, [], .bool (((decide ((1 : Int) ≤ a)) && (decide ((a : Int) ≤ 4096))) && (((iand .i64 a (IntKind.wrap .i64 (a - 1))) : Int) == 0)))], [], [], by as_aux_lemma => kernel_rfl, trivial, fun ac wd hS => ?_⟩
  refine wp_ret ?_
  refine St.ret 0 hS (v := .bool (((decide ((1 : Int) ≤ a)) && (decide ((a : Int) ≤ 4096))) && (((iand .i64 a (IntKind.wrap .i64 (a - 1))) : Int) == 0))) (obs := []) (by as_aux_lemma => kernel_rfl) trivial fun hw => ?_
  refine ⟨retd (vbool ?_), hw.fr⟩
  all_goals (rfl)

set_option maxRecDepth 100000 in
set_option maxHeartbeats 4000000 in
theorem size_Up (n : Int) (a : Int) (w : World) :
    Calls Try.prog 8 #[.int .i64 n, .int .i64 a] w fun e w' => e = .returned (.tuple #[.int .i64 (upV n a), .bool (upOk n a)]) ∧ Fr w w' [] [] := by
  refine enter (args := [.int .i64 n, .int .i64 a]) (A := []) Try.func8 rfl 21 rfl [] (WS.start (AllAr.nil w)) fun ac hS => ?_
  refine St.region_seq [⟨0, 0, 0⟩, ⟨0, 0, 0⟩] [0, 1] [] hS fun _ => ⟨[(0, [], .int .i64 n), (1, [], .int .i64 a)], [], [], by as_aux_lemma => kernel_rfl, trivial, fun ac wd hS => ?_⟩
  refine wp_seq ?_
  refine wp_region_seq ?_
  refine St.ops 1 [⟨0, 0, 0⟩] [0, 1, 6] [] hS fun _ => ⟨[(0, [], .int .i64 n), (1, [], .int .i64 a), (6, [], .int .i64 n)], [], [], by as_aux_lemma => kernel_rfl, trivial, fun ac wd hS => ?_⟩
  refine St.call 0 0 hS (f := 20) (args := #[.int .i64 n]) (obs := []) (by as_aux_lemma => kernel_rfl) trivial (by as_aux_lemma => kernel_rfl) (size_right n _ ) ?_
  rintro _ wd ⟨rfl, hF⟩
  refine ⟨.bool (isSize n), rfl, ?_⟩
  replace hS := St.put (d := 7) (v := .bool (isSize n)) (hS.to (hS.mem.keep0 hF)) (by decide)
  clear hF
  refine St.ops 2 [⟨0, 0, 0⟩, ⟨0, 0, 0⟩] [0, 1, 9] [] hS fun _ => ⟨[(0, [], .int .i64 n), (1, [], .int .i64 a), (9, [], .bool (!(isSize n)))], [], [], by as_aux_lemma => kernel_rfl, trivial, fun ac wd hS => ?_⟩
  rcases Bool.eq_false_or_eq_true (!(isSize n)) with hg1 | hg1
  · rw [hg1] at hS
    have hg1o := hg1
    try simp only [decide_eq_true_eq, decide_eq_false_iff_not, beq_iff_eq, bne_iff_ne, beq_eq_false_iff_ne, bne_eq_false_iff_eq, Bool.and_eq_true, Bool.or_eq_true, Bool.and_eq_false_iff, Bool.or_eq_false_iff, Bool.not_eq_true', Bool.not_eq_false', ne_eq, Int.not_lt, Int.not_le, Bool.true_and, Bool.false_and, Bool.and_true, Bool.and_false, Bool.or_true, Bool.or_false, Bool.true_or, Bool.false_or, Bool.not_true, Bool.not_false, isSize_iff, whole_iff] at hg1
    refine St.ops 4 [⟨2, 0, 0⟩, ⟨2, 0, 0⟩, ⟨2, 0, 0⟩, ⟨0, 7, 0⟩] [0, 1, 13] [] hS fun _ => ⟨[(0, [], .int .i64 n), (1, [], .int .i64 a), (13, [], .bool true)], [], [(.bool true : Value) = .bool true, (.bool true : Value) = .bool (!false), (.bool true : Value) = .bool (!false), (.bool true : Value) = .bool (!false)], by as_aux_lemma => kernel_rfl, ⟨rfl, rfl, rfl, rfl, trivial⟩, fun ac wd hS => ?_⟩
    refine list_nil_seq ?_
    refine St.cond (b := true) hS (by as_aux_lemma => kernel_rfl) (fun _ => ?_) (fun h => nomatch h)
    refine St.region_seq [⟨0, 0, 0⟩, ⟨0, 0, 0⟩] [4, 5] [] hS fun _ => ⟨[(4, [], .int .i64 0), (5, [], .bool false)], [], [], by as_aux_lemma => kernel_rfl, trivial, fun ac wd hS => ?_⟩
    refine wp_ret ?_
    refine pop_then_ret ?_
    refine St.ret 0 hS (v := .tuple #[.int .i64 0, .bool false]) (obs := []) (by as_aux_lemma => kernel_rfl) trivial fun hw => ?_
    refine ⟨retd (tuple2 (vint ?_) (vbool ?_)), hw.fr⟩
    all_goals (first | (simp_all [upV, upOk]; done) | (rw [up_eq (by simp_all) (by simp_all), upV_ok (by simp_all) (by simp_all)]))
  · rw [hg1] at hS
    have hg1o := hg1
    try simp only [decide_eq_true_eq, decide_eq_false_iff_not, beq_iff_eq, bne_iff_ne, beq_eq_false_iff_ne, bne_eq_false_iff_eq, Bool.and_eq_true, Bool.or_eq_true, Bool.and_eq_false_iff, Bool.or_eq_false_iff, Bool.not_eq_true', Bool.not_eq_false', ne_eq, Int.not_lt, Int.not_le, Bool.true_and, Bool.false_and, Bool.and_true, Bool.and_false, Bool.or_true, Bool.or_false, Bool.true_or, Bool.false_or, Bool.not_true, Bool.not_false, isSize_iff, whole_iff] at hg1
    refine St.ops 1 [⟨1, 0, 0⟩] [0, 1, 9, 10] [] hS fun _ => ⟨[(0, [], .int .i64 n), (1, [], .int .i64 a), (9, [], .bool false), (10, [], .int .i64 a)], [], [(.bool false : Value) = .bool false], by as_aux_lemma => kernel_rfl, ⟨rfl, trivial⟩, fun ac wd hS => ?_⟩
    refine St.call 1 0 hS (f := 12) (args := #[.int .i64 a]) (obs := [(.bool false : Value) = .bool false]) (by as_aux_lemma => kernel_rfl) ⟨rfl, trivial⟩ (by as_aux_lemma => kernel_rfl) (size_Whole a _ ) ?_
    rintro _ wd ⟨rfl, hF⟩
    refine ⟨.bool (whole a), rfl, ?_⟩
    replace hS := St.put (d := 11) (v := .bool (whole a)) (hS.to (hS.mem.keep0 hF)) (by decide)
    clear hF
    refine St.ops 2 [⟨1, 0, 0⟩, ⟨0, 6, 0⟩] [0, 1, 13] [] hS fun _ => ⟨[(0, [], .int .i64 n), (1, [], .int .i64 a), (13, [], .bool (!(whole a)))], [], [(.bool false : Value) = .bool false, (.bool false : Value) = .bool false], by as_aux_lemma => kernel_rfl, ⟨rfl, rfl, trivial⟩, fun ac wd hS => ?_⟩
    refine list_nil_seq ?_
    refine St.cond (b := (!(whole a))) hS (by as_aux_lemma => kernel_rfl) (fun hb3 => ?_) (fun hb3 => ?_)
    · have hb3o := hb3
      try simp only [decide_eq_true_eq, decide_eq_false_iff_not, beq_iff_eq, bne_iff_ne, beq_eq_false_iff_ne, bne_eq_false_iff_eq, Bool.and_eq_true, Bool.or_eq_true, Bool.and_eq_false_iff, Bool.or_eq_false_iff, Bool.not_eq_true', Bool.not_eq_false', ne_eq, Int.not_lt, Int.not_le, Bool.true_and, Bool.false_and, Bool.and_true, Bool.and_false, Bool.or_true, Bool.or_false, Bool.true_or, Bool.false_or, Bool.not_true, Bool.not_false, isSize_iff, whole_iff] at hb3
      refine St.region_seq [⟨0, 0, 0⟩, ⟨0, 0, 0⟩] [4, 5] [] hS fun _ => ⟨[(4, [], .int .i64 0), (5, [], .bool false)], [], [], by as_aux_lemma => kernel_rfl, trivial, fun ac wd hS => ?_⟩
      refine wp_ret ?_
      refine pop_then_ret ?_
      refine St.ret 0 hS (v := .tuple #[.int .i64 0, .bool false]) (obs := []) (by as_aux_lemma => kernel_rfl) trivial fun hw => ?_
      refine ⟨retd (tuple2 (vint ?_) (vbool ?_)), hw.fr⟩
      all_goals (first | (simp_all [upV, upOk]; done) | (rw [up_eq (by simp_all) (by simp_all), upV_ok (by simp_all) (by simp_all)]))
    · have hb3o := hb3
      try simp only [decide_eq_true_eq, decide_eq_false_iff_not, beq_iff_eq, bne_iff_ne, beq_eq_false_iff_ne, bne_eq_false_iff_eq, Bool.and_eq_true, Bool.or_eq_true, Bool.and_eq_false_iff, Bool.or_eq_false_iff, Bool.not_eq_true', Bool.not_eq_false', ne_eq, Int.not_lt, Int.not_le, Bool.true_and, Bool.false_and, Bool.and_true, Bool.and_false, Bool.or_true, Bool.or_false, Bool.true_or, Bool.false_or, Bool.not_true, Bool.not_false, isSize_iff, whole_iff] at hb3
      refine wp_skip ?_
      refine pop_then ?_
      have ew4 : (IntKind.wrap .i64 (n + a)) = (n + a) := i64_in (x := (n + a)) (by omega)
      have ew5 : (IntKind.wrap .i64 ((n + a) - 1)) = ((n + a) - 1) := i64_in (x := ((n + a) - 1)) (by omega)
      have ew6 : (IntKind.wrap .i64 (a - 1)) = (a - 1) := i64_in (x := (a - 1)) (by omega)
      refine St.region_seq [⟨0, 0, 0⟩, ⟨0, 0, 0⟩, ⟨0, 0, 0⟩, ⟨0, 0, 0⟩, ⟨0, 0, 0⟩, ⟨0, 0, 0⟩, ⟨0, 0, 0⟩, ⟨0, 0, 0⟩, ⟨0, 0, 0⟩] [4, 5] [] hS fun _ => ⟨[(4, [], .int .i64 (iandNot .i64 (IntKind.wrap .i64 ((IntKind.wrap .i64 (n + a)) - 1)) (IntKind.wrap .i64 (a - 1)))), (5, [], .bool true)], [], [], by as_aux_lemma => kernel_rfl, trivial, fun ac wd hS => ?_⟩
      simp only [ew4, ew5, ew6] at hS
      refine wp_ret ?_
      refine St.ret 0 hS (v := .tuple #[.int .i64 (iandNot .i64 ((n + a) - 1) (a - 1)), .bool true]) (obs := []) (by as_aux_lemma => kernel_rfl) trivial fun hw => ?_
      refine ⟨retd (tuple2 (vint ?_) (vbool ?_)), hw.fr⟩
      all_goals (first | (simp_all [upV, upOk]; done) | (rw [up_eq (by simp_all) (by simp_all), upV_ok (by simp_all) (by simp_all)]))

set_option maxRecDepth 100000 in
set_option maxHeartbeats 4000000 in
theorem size_Pages (n : Int) (w : World) :
    Calls Try.prog 10 #[.int .i64 n] w fun e w' => e = .returned (.tuple #[.int .i64 (pagesV n), .bool (isSize n)]) ∧ Fr w w' [] [] := by
  have hub := upV_bd n 4096
  refine enter (args := [.int .i64 n]) (A := []) Try.func10 rfl 13 rfl [] (WS.start (AllAr.nil w)) fun ac hS => ?_
  refine St.region_seq [⟨0, 0, 0⟩, ⟨0, 0, 0⟩] [0] [] hS fun _ => ⟨[(0, [], .int .i64 n)], [], [], by as_aux_lemma => kernel_rfl, trivial, fun ac wd hS => ?_⟩
  refine wp_region_seq ?_
  refine St.ops 1 [⟨0, 0, 0⟩] [0, 6] [] hS fun _ => ⟨[(0, [], .int .i64 n), (6, [], .int .i64 n)], [], [], by as_aux_lemma => kernel_rfl, trivial, fun ac wd hS => ?_⟩
  refine St.call 0 0 hS (f := 8) (args := #[.int .i64 n, .int .i64 4096]) (obs := []) (by as_aux_lemma => kernel_rfl) trivial (by as_aux_lemma => kernel_rfl) (size_Up n 4096 _ ) ?_
  rintro _ wd ⟨rfl, hF⟩
  refine ⟨.tuple #[.int .i64 (upV n 4096), .bool (upOk n 4096)], rfl, ?_⟩
  replace hS := St.put (d := 7) (v := .tuple #[.int .i64 (upV n 4096), .bool (upOk n 4096)]) (hS.to (hS.mem.keep0 hF)) (by decide)
  clear hF
  refine St.ops 5 [⟨0, 0, 0⟩, ⟨0, 0, 0⟩, ⟨0, 0, 0⟩, ⟨0, 0, 0⟩, ⟨0, 0, 0⟩] [0, 4] [] hS fun _ => ⟨[(0, [], .int .i64 (upV n 4096)), (4, [], .bool (upOk n 4096))], [], [], by as_aux_lemma => kernel_rfl, trivial, fun ac wd hS => ?_⟩
  refine list_nil_seq ?_
  have ew1 : (IntKind.wrap .i64 (Int.tdiv (upV n 4096) 4096)) = ((upV n 4096) / 4096) := quo_in (x := (upV n 4096)) (d := 4096) (by omega) (by omega) (by omega)
  refine St.region_seq [⟨0, 0, 0⟩, ⟨0, 0, 0⟩, ⟨0, 0, 0⟩, ⟨0, 0, 0⟩, ⟨0, 0, 0⟩] [2, 3] [] hS fun _ => ⟨[(2, [], .int .i64 (IntKind.wrap .i64 (Int.tdiv (upV n 4096) 4096))), (3, [], .bool (upOk n 4096))], [], [], by as_aux_lemma => kernel_rfl, trivial, fun ac wd hS => ?_⟩
  simp only [ew1] at hS
  refine wp_ret ?_
  refine St.ret 0 hS (v := .tuple #[.int .i64 ((upV n 4096) / 4096), .bool (upOk n 4096)]) (obs := []) (by as_aux_lemma => kernel_rfl) trivial fun hw => ?_
  refine ⟨retd (tuple2 (vint ?_) (vbool ?_)), hw.fr⟩
  all_goals (first | exact pages_eq n | (simp [upOk, whole_page]))

set_option maxRecDepth 100000 in
set_option maxHeartbeats 4000000 in
theorem bits_Len64 (x : Int) (w : World) (hx0 : 0 ≤ x) (hx1 : x < 1024) :
    Calls Try.prog 24 #[.int .u64 x] w fun e w' => e = .returned (.int .i64 (blen x)) ∧ Fr w w' [] [] := by
  have hb1 := fun y => bat_len8 (y := y)
  have hlx : 0 ≤ bat len8 x ∧ bat len8 x ≤ 255 := bat_byte _ _
  have hlx2 : 0 ≤ bat len8 (x / 256) ∧ bat len8 (x / 256) ≤ 255 := bat_byte _ _
  refine enter (args := [.int .u64 x]) (A := []) Try.func24 rfl 25 rfl [] (WS.start (AllAr.nil w)) fun ac hS => ?_
  refine St.region_seq [⟨0, 0, 0⟩] [0, 2] [] hS fun _ => ⟨[(0, [], .int .u64 x), (2, [], .int .i64 0)], [], [], by as_aux_lemma => kernel_rfl, trivial, fun ac wd hS => ?_⟩
  refine wp_seq ?_
  refine St.region_seq [⟨0, 0, 0⟩, ⟨0, 0, 0⟩] [0, 2, 4] [] hS fun _ => ⟨[(0, [], .int .u64 x), (2, [], .int .i64 0), (4, [], .bool (decide ((4294967296 : Int) ≤ x)))], [], [], by as_aux_lemma => kernel_rfl, trivial, fun ac wd hS => ?_⟩
  refine St.cond (b := (decide ((4294967296 : Int) ≤ x))) hS (by as_aux_lemma => kernel_rfl) (fun h => absurd h (by simp; omega)) (fun _ => ?_)
  refine wp_skip ?_
  refine pop_then ?_
  refine wp_seq ?_
  refine St.region_seq [⟨0, 0, 0⟩, ⟨0, 0, 0⟩] [0, 2, 8] [] hS fun _ => ⟨[(0, [], .int .u64 x), (2, [], .int .i64 0), (8, [], .bool (decide ((65536 : Int) ≤ x)))], [], [], by as_aux_lemma => kernel_rfl, trivial, fun ac wd hS => ?_⟩
  refine St.cond (b := (decide ((65536 : Int) ≤ x))) hS (by as_aux_lemma => kernel_rfl) (fun h => absurd h (by simp; omega)) (fun _ => ?_)
  refine wp_skip ?_
  refine pop_then ?_
  refine wp_seq ?_
  refine St.region_seq [⟨0, 0, 0⟩, ⟨0, 0, 0⟩] [0, 2, 14] [] hS fun _ => ⟨[(0, [], .int .u64 x), (2, [], .int .i64 0), (14, [], .bool (decide ((256 : Int) ≤ x)))], [], [], by as_aux_lemma => kernel_rfl, trivial, fun ac wd hS => ?_⟩
  refine St.cond (b := (decide ((256 : Int) ≤ x))) hS (by as_aux_lemma => kernel_rfl) (fun hb3 => ?_) (fun hb3 => ?_)
  · have hb3o := hb3
    try simp only [decide_eq_true_eq, decide_eq_false_iff_not, beq_iff_eq, bne_iff_ne, beq_eq_false_iff_ne, bne_eq_false_iff_eq, Bool.and_eq_true, Bool.or_eq_true, Bool.and_eq_false_iff, Bool.or_eq_false_iff, Bool.not_eq_true', Bool.not_eq_false', ne_eq, Int.not_lt, Int.not_le, Bool.true_and, Bool.false_and, Bool.and_true, Bool.and_false, Bool.or_true, Bool.or_false, Bool.true_or, Bool.false_or, Bool.not_true, Bool.not_false] at hb3
    have ew4 : (Int.fdiv x (2 ^ 8)) = (x / 256) := shr_in (x := x) (k := 8) (d := 256) (by decide) (by omega)
    refine St.region_seq [⟨0, 0, 0⟩, ⟨0, 0, 0⟩, ⟨0, 0, 0⟩] [0, 2] [] hS fun _ => ⟨[(0, [], .int .u64 (Int.fdiv x (2 ^ 8))), (2, [], .int .i64 0)], [], [], by as_aux_lemma => kernel_rfl, trivial, fun ac wd hS => ?_⟩
    simp only [ew4] at hS
    refine St.region [⟨0, 0, 0⟩, ⟨0, 0, 0⟩, ⟨0, 0, 0⟩] [0, 2] [] hS fun _ => ⟨[(0, [], .int .u64 (x / 256)), (2, [], .int .i64 8)], [], [], by as_aux_lemma => kernel_rfl, trivial, fun ac wd hS => ?_⟩
    refine pop_then ?_
    have ew5 : (IntKind.wrap .u8 (x / 256)) = (x / 256) := u8_in (x := (x / 256)) (by omega)
    have ew6 : (IntKind.wrap .i64 (bat len8 (x / 256))) = (bat len8 (x / 256)) := i64_in (x := (bat len8 (x / 256))) (by omega)
    have ew7 : (IntKind.wrap .i64 (8 + (bat len8 (x / 256)))) = (8 + (bat len8 (x / 256))) := i64_in (x := (8 + (bat len8 (x / 256)))) (by omega)
    refine St.region_seq [⟨0, 0, 0⟩, ⟨0, 0, 0⟩, ⟨0, 0, 0⟩, ⟨0, 1, 0⟩, ⟨0, 0, 0⟩, ⟨0, 0, 0⟩, ⟨0, 0, 0⟩] [2] [] hS fun _ => ⟨[(2, [], .int .i64 (IntKind.wrap .i64 (8 + (IntKind.wrap .i64 (bat len8 (IntKind.wrap .u8 (x / 256)))))))], [], [0 ≤ (IntKind.wrap .u8 (x / 256)) ∧ (IntKind.wrap .u8 (x / 256)) < (ByteArray.size len8 : Int)], by as_aux_lemma => kernel_rfl, ⟨(by (try simp only [ew5, ew6, ew7]); first | (simp only [len8_size]; omega) | omega), trivial⟩, fun ac wd hS => ?_⟩
    simp only [ew5, ew6, ew7] at hS
    refine wp_ret ?_
    refine St.ret 0 hS (v := .int .i64 (8 + (bat len8 (x / 256)))) (obs := []) (by as_aux_lemma => kernel_rfl) trivial fun hw => ?_
    refine ⟨retd (vint ?_), hw.fr⟩
    all_goals (first | (rw [bat_len8 (by omega) (by omega), blen_256 (by omega) (by omega)]) | (rw [Int.zero_add, bat_len8 (by omega) (by omega)]))
  · have hb3o := hb3
    try simp only [decide_eq_true_eq, decide_eq_false_iff_not, beq_iff_eq, bne_iff_ne, beq_eq_false_iff_ne, bne_eq_false_iff_eq, Bool.and_eq_true, Bool.or_eq_true, Bool.and_eq_false_iff, Bool.or_eq_false_iff, Bool.not_eq_true', Bool.not_eq_false', ne_eq, Int.not_lt, Int.not_le, Bool.true_and, Bool.false_and, Bool.and_true, Bool.and_false, Bool.or_true, Bool.or_false, Bool.true_or, Bool.false_or, Bool.not_true, Bool.not_false] at hb3
    refine wp_skip ?_
    refine pop_then ?_
    have ew8 : (IntKind.wrap .u8 x) = x := u8_in (x := x) (by omega)
    have ew9 : (IntKind.wrap .i64 (bat len8 x)) = (bat len8 x) := i64_in (x := (bat len8 x)) (by omega)
    have ew10 : (IntKind.wrap .i64 (0 + (bat len8 x))) = (0 + (bat len8 x)) := i64_in (x := (0 + (bat len8 x))) (by omega)
    refine St.region_seq [⟨0, 0, 0⟩, ⟨0, 0, 0⟩, ⟨0, 0, 0⟩, ⟨0, 1, 0⟩, ⟨0, 0, 0⟩, ⟨0, 0, 0⟩, ⟨0, 0, 0⟩] [2] [] hS fun _ => ⟨[(2, [], .int .i64 (IntKind.wrap .i64 (0 + (IntKind.wrap .i64 (bat len8 (IntKind.wrap .u8 x))))))], [], [0 ≤ (IntKind.wrap .u8 x) ∧ (IntKind.wrap .u8 x) < (ByteArray.size len8 : Int)], by as_aux_lemma => kernel_rfl, ⟨(by (try simp only [ew8, ew9, ew10]); first | (simp only [len8_size]; omega) | omega), trivial⟩, fun ac wd hS => ?_⟩
    simp only [ew8, ew9, ew10] at hS
    refine wp_ret ?_
    refine St.ret 0 hS (v := .int .i64 (0 + (bat len8 x))) (obs := []) (by as_aux_lemma => kernel_rfl) trivial fun hw => ?_
    refine ⟨retd (vint ?_), hw.fr⟩
    all_goals (first | (rw [bat_len8 (by omega) (by omega), blen_256 (by omega) (by omega)]) | (rw [Int.zero_add, bat_len8 (by omega) (by omega)]))

set_option maxRecDepth 100000 in
set_option maxHeartbeats 4000000 in
theorem bits_Len (x : Int) (w : World) (hx0 : 0 ≤ x) (hx1 : x < 1024) :
    Calls Try.prog 22 #[.int .u64 x] w fun e w' => e = .returned (.int .i64 (blen x)) ∧ Fr w w' [] [] := by
  refine enter (args := [.int .u64 x]) (A := []) Try.func22 rfl 8 rfl [] (WS.start (AllAr.nil w)) fun ac hS => ?_
  refine St.region_seq [⟨0, 0, 0⟩] [0] [] hS fun _ => ⟨[(0, [], .int .u64 x)], [], [], by as_aux_lemma => kernel_rfl, trivial, fun ac wd hS => ?_⟩
  refine wp_seq ?_
  refine wp_cond_false rfl ?_
  refine wp_skip ?_
  refine pop_then ?_
  refine wp_region_seq ?_
  refine St.ops 1 [⟨0, 0, 0⟩] [6] [] hS fun _ => ⟨[(6, [], .int .u64 x)], [], [], by as_aux_lemma => kernel_rfl, trivial, fun ac wd hS => ?_⟩
  refine St.call 0 0 hS (f := 24) (args := #[.int .u64 x]) (obs := []) (by as_aux_lemma => kernel_rfl) trivial (by as_aux_lemma => kernel_rfl) (bits_Len64 x _ (by first | assumption | omega | (simp_all; done) | (simp_all; omega)) (by first | assumption | omega | (simp_all; done) | (simp_all; omega))) ?_
  rintro _ wd ⟨rfl, hF⟩
  refine ⟨.int .i64 (blen x), rfl, ?_⟩
  replace hS := St.put (d := 7) (v := .int .i64 (blen x)) (hS.to (hS.mem.keep0 hF)) (by decide)
  clear hF
  refine St.ops 1 [⟨0, 0, 0⟩] [2] [] hS fun _ => ⟨[(2, [], .int .i64 (blen x))], [], [], by as_aux_lemma => kernel_rfl, trivial, fun ac wd hS => ?_⟩
  refine list_nil_seq ?_
  refine wp_ret ?_
  refine St.ret 0 hS (v := .int .i64 (blen x)) (obs := []) (by as_aux_lemma => kernel_rfl) trivial fun hw => ?_
  refine ⟨retd rfl, hw.fr⟩

set_option maxRecDepth 100000 in
set_option maxHeartbeats 4000000 in
theorem size_Order (p : Int) (w : World) :
    Calls Try.prog 16 #[.int .i64 p] w fun e w' => e = .returned (.tuple #[.int .i64 (ordV p), .bool (ordOk p)]) ∧ Fr w w' [] [] := by
  refine enter (args := [.int .i64 p]) (A := []) Try.func16 rfl 14 rfl [] (WS.start (AllAr.nil w)) fun ac hS => ?_
  refine St.region_seq [⟨0, 0, 0⟩, ⟨0, 0, 0⟩] [0] [] hS fun _ => ⟨[(0, [], .int .i64 p)], [], [], by as_aux_lemma => kernel_rfl, trivial, fun ac wd hS => ?_⟩
  refine wp_seq ?_
  refine St.region_seq [⟨0, 0, 0⟩, ⟨0, 0, 0⟩, ⟨0, 0, 0⟩, ⟨3, 0, 0⟩, ⟨3, 0, 0⟩, ⟨0, 8, 0⟩] [0, 9] [] hS fun _ => ⟨[(0, [], .int .i64 p), (9, [], .bool ((decide ((p : Int) < 1)) || (decide ((1024 : Int) < p))))], [], [], by as_aux_lemma => kernel_rfl, trivial, fun ac wd hS => ?_⟩
  refine St.cond (b := ((decide ((p : Int) < 1)) || (decide ((1024 : Int) < p)))) hS (by as_aux_lemma => kernel_rfl) (fun hb1 => ?_) (fun hb1 => ?_)
  · have hb1o := hb1
    try simp only [decide_eq_true_eq, decide_eq_false_iff_not, beq_iff_eq, bne_iff_ne, beq_eq_false_iff_ne, bne_eq_false_iff_eq, Bool.and_eq_true, Bool.or_eq_true, Bool.and_eq_false_iff, Bool.or_eq_false_iff, Bool.not_eq_true', Bool.not_eq_false', ne_eq, Int.not_lt, Int.not_le, Bool.true_and, Bool.false_and, Bool.and_true, Bool.and_false, Bool.or_true, Bool.or_false, Bool.true_or, Bool.false_or, Bool.not_true, Bool.not_false] at hb1
    refine St.region_seq [⟨0, 0, 0⟩, ⟨0, 0, 0⟩] [2, 3] [] hS fun _ => ⟨[(2, [], .int .i64 0), (3, [], .bool false)], [], [], by as_aux_lemma => kernel_rfl, trivial, fun ac wd hS => ?_⟩
    refine wp_ret ?_
    refine pop_then_ret ?_
    refine St.ret 0 hS (v := .tuple #[.int .i64 0, .bool false]) (obs := []) (by as_aux_lemma => kernel_rfl) trivial fun hw => ?_
    refine ⟨retd (tuple2 (vint ?_) (vbool ?_)), hw.fr⟩
    all_goals (first | (simp_all [ordV, ordOk]; done) | (simp_all [ordV, ordOk]; omega) | (simp only [ordV, ordOk]; simp; omega))
  · have hb1o := hb1
    try simp only [decide_eq_true_eq, decide_eq_false_iff_not, beq_iff_eq, bne_iff_ne, beq_eq_false_iff_ne, bne_eq_false_iff_eq, Bool.and_eq_true, Bool.or_eq_true, Bool.and_eq_false_iff, Bool.or_eq_false_iff, Bool.not_eq_true', Bool.not_eq_false', ne_eq, Int.not_lt, Int.not_le, Bool.true_and, Bool.false_and, Bool.and_true, Bool.and_false, Bool.or_true, Bool.or_false, Bool.true_or, Bool.false_or, Bool.not_true, Bool.not_false] at hb1
    refine wp_skip ?_
    refine pop_then ?_
    refine wp_region_seq ?_
    have ew2 : (IntKind.wrap .i64 (p - 1)) = (p - 1) := i64_in (x := (p - 1)) (by omega)
    have ew3 : (IntKind.wrap .u64 (p - 1)) = (p - 1) := u64_in (x := (p - 1)) (by omega)
    refine St.ops 3 [⟨0, 0, 0⟩, ⟨0, 0, 0⟩, ⟨0, 0, 0⟩] [12] [] hS fun _ => ⟨[(12, [], .int .u64 (IntKind.wrap .u64 (IntKind.wrap .i64 (p - 1))))], [], [], by as_aux_lemma => kernel_rfl, trivial, fun ac wd hS => ?_⟩
    simp only [ew2, ew3] at hS
    refine St.call 0 0 hS (f := 22) (args := #[.int .u64 (p - 1)]) (obs := []) (by as_aux_lemma => kernel_rfl) trivial (by as_aux_lemma => kernel_rfl) (bits_Len (p - 1) _ (by first | assumption | omega | (simp_all; done) | (simp_all; omega)) (by first | assumption | omega | (simp_all; done) | (simp_all; omega))) ?_
    rintro _ wd ⟨rfl, hF⟩
    refine ⟨.int .i64 (blen (p - 1)), rfl, ?_⟩
    replace hS := St.put (d := 13) (v := .int .i64 (blen (p - 1))) (hS.to (hS.mem.keep0 hF)) (by decide)
    clear hF
    refine St.ops 2 [⟨0, 0, 0⟩, ⟨0, 0, 0⟩] [2, 3] [] hS fun _ => ⟨[(2, [], .int .i64 (blen (p - 1))), (3, [], .bool true)], [], [], by as_aux_lemma => kernel_rfl, trivial, fun ac wd hS => ?_⟩
    refine list_nil_seq ?_
    refine wp_ret ?_
    refine St.ret 0 hS (v := .tuple #[.int .i64 (blen (p - 1)), .bool true]) (obs := []) (by as_aux_lemma => kernel_rfl) trivial fun hw => ?_
    refine ⟨retd (tuple2 (vint ?_) (vbool ?_)), hw.fr⟩
    all_goals (first | (simp_all [ordV, ordOk]; done) | (simp_all [ordV, ordOk]; omega) | (simp only [ordV, ordOk]; simp; omega))

set_option maxRecDepth 100000 in
set_option maxHeartbeats 4000000 in
theorem size_Span (o : Int) (w : World) :
    Calls Try.prog 18 #[.int .i64 o] w fun e w' => e = .returned (.int .i64 (spanV o)) ∧ Fr w w' [] [] := by
  refine enter (args := [.int .i64 o]) (A := []) Try.func18 rfl 11 rfl [] (WS.start (AllAr.nil w)) fun ac hS => ?_
  refine St.region_seq [⟨0, 0, 0⟩] [0] [] hS fun _ => ⟨[(0, [], .int .i64 o)], [], [], by as_aux_lemma => kernel_rfl, trivial, fun ac wd hS => ?_⟩
  refine wp_seq ?_
  refine St.region_seq [⟨0, 0, 0⟩, ⟨0, 0, 0⟩, ⟨0, 0, 0⟩, ⟨3, 0, 0⟩, ⟨3, 0, 0⟩, ⟨0, 8, 0⟩] [0, 8] [] hS fun _ => ⟨[(0, [], .int .i64 o), (8, [], .bool ((decide ((o : Int) < 0)) || (decide ((10 : Int) < o))))], [], [], by as_aux_lemma => kernel_rfl, trivial, fun ac wd hS => ?_⟩
  refine St.cond (b := ((decide ((o : Int) < 0)) || (decide ((10 : Int) < o)))) hS (by as_aux_lemma => kernel_rfl) (fun hb1 => ?_) (fun hb1 => ?_)
  · have hb1o := hb1
    try simp only [decide_eq_true_eq, decide_eq_false_iff_not, beq_iff_eq, bne_iff_ne, beq_eq_false_iff_ne, bne_eq_false_iff_eq, Bool.and_eq_true, Bool.or_eq_true, Bool.and_eq_false_iff, Bool.or_eq_false_iff, Bool.not_eq_true', Bool.not_eq_false', ne_eq, Int.not_lt, Int.not_le, Bool.true_and, Bool.false_and, Bool.and_true, Bool.and_false, Bool.or_true, Bool.or_false, Bool.true_or, Bool.false_or, Bool.not_true, Bool.not_false] at hb1
    refine St.region_seq [⟨0, 0, 0⟩] [2] [] hS fun _ => ⟨[(2, [], .int .i64 0)], [], [], by as_aux_lemma => kernel_rfl, trivial, fun ac wd hS => ?_⟩
    refine wp_ret ?_
    refine pop_then_ret ?_
    refine St.ret 0 hS (v := .int .i64 0) (obs := []) (by as_aux_lemma => kernel_rfl) trivial fun hw => ?_
    refine ⟨retd (vint ?_), hw.fr⟩
    all_goals (first | (exact span_eq (by omega) (by omega)) | (rw [spanV, if_neg (by simp [spanOk]; omega)]))
  · have hb1o := hb1
    try simp only [decide_eq_true_eq, decide_eq_false_iff_not, beq_iff_eq, bne_iff_ne, beq_eq_false_iff_ne, bne_eq_false_iff_eq, Bool.and_eq_true, Bool.or_eq_true, Bool.and_eq_false_iff, Bool.or_eq_false_iff, Bool.not_eq_true', Bool.not_eq_false', ne_eq, Int.not_lt, Int.not_le, Bool.true_and, Bool.false_and, Bool.and_true, Bool.and_false, Bool.or_true, Bool.or_false, Bool.true_or, Bool.false_or, Bool.not_true, Bool.not_false] at hb1
    refine wp_skip ?_
    refine pop_then ?_
    refine St.region_seq [⟨0, 0, 0⟩, ⟨0, 1, 0⟩, ⟨0, 0, 0⟩] [2] [] hS fun _ => ⟨[(2, [], .int .i64 (IntKind.wrap .i64 (4096 * 2 ^ (min (Int.toNat o) 64))))], [], [0 ≤ o], by as_aux_lemma => kernel_rfl, ⟨(by first | omega | (simp; omega) | (simp_all; done) | (simp_all; omega)), trivial⟩, fun ac wd hS => ?_⟩
    refine wp_ret ?_
    refine St.ret 0 hS (v := .int .i64 (IntKind.wrap .i64 (4096 * 2 ^ (min (Int.toNat o) 64)))) (obs := []) (by as_aux_lemma => kernel_rfl) trivial fun hw => ?_
    refine ⟨retd (vint ?_), hw.fr⟩
    all_goals (first | (exact span_eq (by omega) (by omega)) | (rw [spanV, if_neg (by simp [spanOk]; omega)]))

set_option maxRecDepth 100000 in
set_option maxHeartbeats 4000000 in
theorem size_Sum (g : Nat) (o : Nat) (c : Nat) (l : List Int) (w : World) (hh0 : HE.holds w g (.fn o (o + l.length) (ints l o))) (hl : l.length ≤ 100) :
    Calls Try.prog 14 #[.slice (some ⟨g, o, none⟩) l.length c] w fun e w' => e = .returned (.tuple #[.int .i64 ((sumGo 0 l).1), .bool ((sumGo 0 l).2)]) ∧ Fr w w' [] [] := by
  refine enter (args := [.slice (some ⟨g, o, none⟩) l.length c]) (A := []) Try.func14 rfl 28 rfl [(g, .fn o (o + l.length) (ints l o))] (WS.start1 hh0) fun ac hS => ?_
  refine St.region_seq [⟨0, 0, 0⟩, ⟨0, 0, 0⟩] [0] [0] hS fun _ => ⟨[(0, [], .slice (some ⟨g, o, none⟩) l.length c)], [(g, .fn o (o + l.length) (ints l o))], [], by as_aux_lemma => kernel_rfl, trivial, fun ac wd hS => ?_⟩
  refine St.region_seq [⟨0, 0, 0⟩] [0, 4] [0] hS fun _ => ⟨[(0, [], .slice (some ⟨g, o, none⟩) l.length c), (4, [], .int .i64 0)], [(g, .fn o (o + l.length) (ints l o))], [], by as_aux_lemma => kernel_rfl, trivial, fun ac wd hS => ?_⟩
  refine wp_seq ?_
  refine St.region_seq [⟨0, 0, 0⟩, ⟨0, 0, 0⟩, ⟨0, 0, 0⟩] [4, 7, 8, 9] [0] hS fun _ => ⟨[(4, [], .int .i64 0), (7, [], .slice (some ⟨g, o, none⟩) l.length c), (8, [], .int .i64 ((l.length : Nat) : Int)), (9, [], .int .i64 0)], [(g, .fn o (o + l.length) (ints l o))], [], by as_aux_lemma => kernel_rfl, trivial, fun ac wd hS => ?_⟩
  refine wp_block ?_
  refine St.loop (σ := Int × Int) (fun (x : Int × Int) => match x with | (x4, x9) => [(4, [], .int .i64 x4), (7, [], .slice (some ⟨g, o, none⟩) l.length c), (8, [], .int .i64 ((l.length : Nat) : Int)), (9, [], .int .i64 x9)]) (fun (x : Int × Int) => match x with | (x4, x9) => [(g, .fn o (o + l.length) (ints l o))]) (fun (x : Int × Int) => match x with | (x4, x9) => []) (fun (x : Int × Int) => match x with | (x4, x9) => (0 ≤ x9) ∧ (x9 ≤ (l.length : Int)) ∧ (0 ≤ x4 ∧ x4 ≤ 4294967296) ∧ (sumGo 0 l = sumGo x4 (l.drop (Int.toNat x9)))) (fun (x : Int × Int) => match x with | (x4, x9) => (l.length : Int).toNat - Int.toNat x9) (0, 0) ⟨(by first | omega | rfl | simp), (by first | omega | rfl | simp), (by first | omega | rfl | simp), (by first | omega | rfl | simp)⟩ hS ?_
  clear hS
  rintro ⟨x4, x9⟩ ⟨i0, i1, i2, i3⟩ ac wd hS
  replace hS : St _ 28 [(4, [], .int .i64 x4), (7, [], .slice (some ⟨g, o, none⟩) l.length c), (8, [], .int .i64 ((l.length : Nat) : Int)), (9, [], .int .i64 x9)] [(g, .fn o (o + l.length) (ints l o))] [] ac wd := hS
  replace i0 : 0 ≤ x9 := i0
  replace i1 : x9 ≤ (l.length : Int) := i1
  replace i2 : 0 ≤ x4 ∧ x4 ≤ 4294967296 := i2
  replace i3 : sumGo 0 l = sumGo x4 (l.drop (Int.toNat x9)) := i3
  have hat : x9 < (l.length : Int) → sumGo x4 (l.drop (Int.toNat x9)) = if isSize (l.getD (Int.toNat x9) 0) && isSize (x4 + l.getD (Int.toNat x9) 0) then sumGo (x4 + l.getD (Int.toNat x9) 0) (l.drop (Int.toNat x9 + 1)) else (0, false) := fun h => sumGo_at (by omega)
  refine St.region_seq [⟨0, 0, 0⟩] [4, 7, 8, 9, 10] [0] hS fun _ => ⟨[(4, [], .int .i64 x4), (7, [], .slice (some ⟨g, o, none⟩) l.length c), (8, [], .int .i64 ((l.length : Nat) : Int)), (9, [], .int .i64 x9), (10, [], .bool (decide ((x9 : Int) < ((l.length : Nat) : Int))))], [(g, .fn o (o + l.length) (ints l o))], [], by as_aux_lemma => kernel_rfl, trivial, fun ac wd hS => ?_⟩
  refine wp_seq ?_
  refine St.cond (b := (decide ((x9 : Int) < ((l.length : Nat) : Int)))) hS (by as_aux_lemma => kernel_rfl) (fun hb1 => ?_) (fun hb1 => ?_)
  · have hb1o := hb1
    try simp only [decide_eq_true_eq, decide_eq_false_iff_not, beq_iff_eq, bne_iff_ne, beq_eq_false_iff_ne, bne_eq_false_iff_eq, Bool.and_eq_true, Bool.or_eq_true, Bool.and_eq_false_iff, Bool.or_eq_false_iff, Bool.not_eq_true', Bool.not_eq_false', ne_eq, Int.not_lt, Int.not_le, Bool.true_and, Bool.false_and, Bool.and_true, Bool.and_false, Bool.or_true, Bool.or_false, Bool.true_or, Bool.false_or, Bool.not_true, Bool.not_false, isSize_iff, whole_iff] at hb1
    refine wp_skip ?_
    refine pop_then ?_
    refine wp_seq ?_
    refine wp_block ?_
    have ew2 : (l.getD (o + Int.toNat x9 * 1 - o) 0) = (l.getD (Int.toNat x9) 0) := by rw [Nat.mul_one, Nat.add_sub_cancel_left]
    refine St.region_seq [⟨0, 2, 0⟩, ⟨0, 0, 0⟩, ⟨0, 0, 0⟩] [4, 6, 7, 8, 9] [0] hS fun _ => ⟨[(4, [], .int .i64 x4), (6, [], .int .i64 (l.getD (o + Int.toNat x9 * 1 - o) 0)), (7, [], .slice (some ⟨g, o, none⟩) l.length c), (8, [], .int .i64 ((l.length : Nat) : Int)), (9, [], .int .i64 x9)], [(g, .fn o (o + l.length) (ints l o))], [g = g, o ≤ o + Int.toNat x9 * 1 ∧ o + Int.toNat x9 * 1 < (o + l.length), 0 ≤ x9 ∧ x9 < ((l.length : Nat) : Int)], by as_aux_lemma => kernel_rfl, ⟨rfl, (by (try simp only [ew2]); first | omega | (simp; omega) | (simp_all; done) | (simp_all; omega)), (by (try simp only [ew2]); first | omega | (simp; omega) | (simp_all; done) | (simp_all; omega)), trivial⟩, fun ac wd hS => ?_⟩
    simp only [ew2] at hS
    refine wp_seq ?_
    refine wp_region_seq ?_
    refine St.ops 1 [⟨0, 0, 0⟩] [4, 6, 7, 8, 9, 13] [0] hS fun _ => ⟨[(4, [], .int .i64 x4), (6, [], .int .i64 (l.getD (Int.toNat x9) 0)), (7, [], .slice (some ⟨g, o, none⟩) l.length c), (8, [], .int .i64 ((l.length : Nat) : Int)), (9, [], .int .i64 x9), (13, [], .int .i64 (l.getD (Int.toNat x9) 0))], [(g, .fn o (o + l.length) (ints l o))], [], by as_aux_lemma => kernel_rfl, trivial, fun ac wd hS => ?_⟩
    refine St.call 0 0 hS (f := 20) (args := #[.int .i64 (l.getD (Int.toNat x9) 0)]) (obs := []) (by as_aux_lemma => kernel_rfl) trivial (by as_aux_lemma => kernel_rfl) (size_right (l.getD (Int.toNat x9) 0) _ ) ?_
    rintro _ wd ⟨rfl, hF⟩
    refine ⟨.bool (isSize (l.getD (Int.toNat x9) 0)), rfl, ?_⟩
    replace hS := St.put (d := 14) (v := .bool (isSize (l.getD (Int.toNat x9) 0))) (hS.to (hS.mem.keep0 hF)) (by decide)
    clear hF
    refine St.ops 2 [⟨0, 0, 0⟩, ⟨0, 0, 0⟩] [4, 6, 7, 8, 9, 16] [0] hS fun _ => ⟨[(4, [], .int .i64 x4), (6, [], .int .i64 (l.getD (Int.toNat x9) 0)), (7, [], .slice (some ⟨g, o, none⟩) l.length c), (8, [], .int .i64 ((l.length : Nat) : Int)), (9, [], .int .i64 x9), (16, [], .bool (!(isSize (l.getD (Int.toNat x9) 0))))], [(g, .fn o (o + l.length) (ints l o))], [], by as_aux_lemma => kernel_rfl, trivial, fun ac wd hS => ?_⟩
    rcases Bool.eq_false_or_eq_true (!(isSize (l.getD (Int.toNat x9) 0))) with hg3 | hg3
    · rw [hg3] at hS
      have hg3o := hg3
      try simp only [decide_eq_true_eq, decide_eq_false_iff_not, beq_iff_eq, bne_iff_ne, beq_eq_false_iff_ne, bne_eq_false_iff_eq, Bool.and_eq_true, Bool.or_eq_true, Bool.and_eq_false_iff, Bool.or_eq_false_iff, Bool.not_eq_true', Bool.not_eq_false', ne_eq, Int.not_lt, Int.not_le, Bool.true_and, Bool.false_and, Bool.and_true, Bool.and_false, Bool.or_true, Bool.or_false, Bool.true_or, Bool.false_or, Bool.not_true, Bool.not_false, isSize_iff, whole_iff] at hg3
      refine St.ops 6 [⟨2, 0, 0⟩, ⟨2, 0, 0⟩, ⟨2, 0, 0⟩, ⟨2, 0, 0⟩, ⟨2, 0, 0⟩, ⟨0, 7, 0⟩] [4, 6, 7, 8, 9, 22] [0] hS fun _ => ⟨[(4, [], .int .i64 x4), (6, [], .int .i64 (l.getD (Int.toNat x9) 0)), (7, [], .slice (some ⟨g, o, none⟩) l.length c), (8, [], .int .i64 ((l.length : Nat) : Int)), (9, [], .int .i64 x9), (22, [], .bool true)], [(g, .fn o (o + l.length) (ints l o))], [(.bool true : Value) = .bool true, (.bool true : Value) = .bool (!false), (.bool true : Value) = .bool (!false), (.bool true : Value) = .bool (!false), (.bool true : Value) = .bool (!false), (.bool true : Value) = .bool (!false)], by as_aux_lemma => kernel_rfl, ⟨rfl, rfl, rfl, rfl, rfl, rfl, trivial⟩, fun ac wd hS => ?_⟩
      refine list_nil_seq ?_
      refine St.cond (b := true) hS (by as_aux_lemma => kernel_rfl) (fun _ => ?_) (fun h => nomatch h)
      refine St.region_seq [⟨0, 0, 0⟩, ⟨0, 0, 0⟩] [2, 3] [] hS fun _ => ⟨[(2, [], .int .i64 0), (3, [], .bool false)], [], [], by as_aux_lemma => kernel_rfl, trivial, fun ac wd hS => ?_⟩
      refine wp_ret ?_
      refine pop_then_ret ?_
      refine pop_block_ret ?_
      refine pop_then_ret ?_
      refine pop_then_ret ?_
      refine pop_block_ret ?_
      refine pop_then_ret ?_
      refine St.ret 0 hS (v := .tuple #[.int .i64 0, .bool false]) (obs := []) (by as_aux_lemma => kernel_rfl) trivial fun hw => ?_
      refine ⟨retd (tuple2 (vint ?_) (vbool ?_)), hw.fr⟩
      all_goals (first | (rw [i3, hat (by omega)]; simp_all; done) | (rw [i3, show Int.toNat x9 = l.length by omega]; simp [sumGo]))
    · rw [hg3] at hS
      have hg3o := hg3
      try simp only [decide_eq_true_eq, decide_eq_false_iff_not, beq_iff_eq, bne_iff_ne, beq_eq_false_iff_ne, bne_eq_false_iff_eq, Bool.and_eq_true, Bool.or_eq_true, Bool.and_eq_false_iff, Bool.or_eq_false_iff, Bool.not_eq_true', Bool.not_eq_false', ne_eq, Int.not_lt, Int.not_le, Bool.true_and, Bool.false_and, Bool.and_true, Bool.and_false, Bool.or_true, Bool.or_false, Bool.true_or, Bool.false_or, Bool.not_true, Bool.not_false, isSize_iff, whole_iff] at hg3
      have ew5 : (IntKind.wrap .i64 (x4 + (l.getD (Int.toNat x9) 0))) = (x4 + (l.getD (Int.toNat x9) 0)) := i64_in (x := (x4 + (l.getD (Int.toNat x9) 0))) (by omega)
      refine St.ops 3 [⟨1, 0, 0⟩, ⟨1, 0, 0⟩, ⟨1, 0, 0⟩] [4, 6, 7, 8, 9, 16, 19] [0] hS fun _ => ⟨[(4, [], .int .i64 x4), (6, [], .int .i64 (l.getD (Int.toNat x9) 0)), (7, [], .slice (some ⟨g, o, none⟩) l.length c), (8, [], .int .i64 ((l.length : Nat) : Int)), (9, [], .int .i64 x9), (16, [], .bool false), (19, [], .int .i64 (IntKind.wrap .i64 (x4 + (l.getD (Int.toNat x9) 0))))], [(g, .fn o (o + l.length) (ints l o))], [(.bool false : Value) = .bool false, (.bool false : Value) = .bool false, (.bool false : Value) = .bool false], by as_aux_lemma => kernel_rfl, ⟨rfl, rfl, rfl, trivial⟩, fun ac wd hS => ?_⟩
      simp only [ew5] at hS
      refine St.call 1 0 hS (f := 20) (args := #[.int .i64 (x4 + (l.getD (Int.toNat x9) 0))]) (obs := [(.bool false : Value) = .bool false]) (by as_aux_lemma => kernel_rfl) ⟨rfl, trivial⟩ (by as_aux_lemma => kernel_rfl) (size_right (x4 + (l.getD (Int.toNat x9) 0)) _ ) ?_
      rintro _ wd ⟨rfl, hF⟩
      refine ⟨.bool (isSize (x4 + (l.getD (Int.toNat x9) 0))), rfl, ?_⟩
      replace hS := St.put (d := 20) (v := .bool (isSize (x4 + (l.getD (Int.toNat x9) 0)))) (hS.to (hS.mem.keep0 hF)) (by decide)
      clear hF
      refine St.ops 2 [⟨1, 0, 0⟩, ⟨0, 6, 0⟩] [4, 6, 7, 8, 9, 22] [0] hS fun _ => ⟨[(4, [], .int .i64 x4), (6, [], .int .i64 (l.getD (Int.toNat x9) 0)), (7, [], .slice (some ⟨g, o, none⟩) l.length c), (8, [], .int .i64 ((l.length : Nat) : Int)), (9, [], .int .i64 x9), (22, [], .bool (!(isSize (x4 + (l.getD (Int.toNat x9) 0)))))], [(g, .fn o (o + l.length) (ints l o))], [(.bool false : Value) = .bool false, (.bool false : Value) = .bool false], by as_aux_lemma => kernel_rfl, ⟨rfl, rfl, trivial⟩, fun ac wd hS => ?_⟩
      refine list_nil_seq ?_
      refine St.cond (b := (!(isSize (x4 + (l.getD (Int.toNat x9) 0))))) hS (by as_aux_lemma => kernel_rfl) (fun hb6 => ?_) (fun hb6 => ?_)
      · have hb6o := hb6
        try simp only [decide_eq_true_eq, decide_eq_false_iff_not, beq_iff_eq, bne_iff_ne, beq_eq_false_iff_ne, bne_eq_false_iff_eq, Bool.and_eq_true, Bool.or_eq_true, Bool.and_eq_false_iff, Bool.or_eq_false_iff, Bool.not_eq_true', Bool.not_eq_false', ne_eq, Int.not_lt, Int.not_le, Bool.true_and, Bool.false_and, Bool.and_true, Bool.and_false, Bool.or_true, Bool.or_false, Bool.true_or, Bool.false_or, Bool.not_true, Bool.not_false, isSize_iff, whole_iff] at hb6
        refine St.region_seq [⟨0, 0, 0⟩, ⟨0, 0, 0⟩] [2, 3] [] hS fun _ => ⟨[(2, [], .int .i64 0), (3, [], .bool false)], [], [], by as_aux_lemma => kernel_rfl, trivial, fun ac wd hS => ?_⟩
        refine wp_ret ?_
        refine pop_then_ret ?_
        refine pop_block_ret ?_
        refine pop_then_ret ?_
        refine pop_then_ret ?_
        refine pop_block_ret ?_
        refine pop_then_ret ?_
        refine St.ret 0 hS (v := .tuple #[.int .i64 0, .bool false]) (obs := []) (by as_aux_lemma => kernel_rfl) trivial fun hw => ?_
        refine ⟨retd (tuple2 (vint ?_) (vbool ?_)), hw.fr⟩
        all_goals (first | (rw [i3, hat (by omega)]; simp_all; done) | (rw [i3, show Int.toNat x9 = l.length by omega]; simp [sumGo]))
      · have hb6o := hb6
        try simp only [decide_eq_true_eq, decide_eq_false_iff_not, beq_iff_eq, bne_iff_ne, beq_eq_false_iff_ne, bne_eq_false_iff_eq, Bool.and_eq_true, Bool.or_eq_true, Bool.and_eq_false_iff, Bool.or_eq_false_iff, Bool.not_eq_true', Bool.not_eq_false', ne_eq, Int.not_lt, Int.not_le, Bool.true_and, Bool.false_and, Bool.and_true, Bool.and_false, Bool.or_true, Bool.or_false, Bool.true_or, Bool.false_or, Bool.not_true, Bool.not_false, isSize_iff, whole_iff] at hb6
        refine wp_skip ?_
        refine pop_then ?_
        have ew7 : (IntKind.wrap .i64 (x4 + (l.getD (Int.toNat x9) 0))) = (x4 + (l.getD (Int.toNat x9) 0)) := i64_in (x := (x4 + (l.getD (Int.toNat x9) 0))) (by omega)
        refine St.region [⟨0, 0, 0⟩, ⟨0, 0, 0⟩, ⟨0, 0, 0⟩, ⟨0, 0, 0⟩] [4, 7, 8, 9] [0] hS fun _ => ⟨[(4, [], .int .i64 (IntKind.wrap .i64 (x4 + (l.getD (Int.toNat x9) 0)))), (7, [], .slice (some ⟨g, o, none⟩) l.length c), (8, [], .int .i64 ((l.length : Nat) : Int)), (9, [], .int .i64 x9)], [(g, .fn o (o + l.length) (ints l o))], [], by as_aux_lemma => kernel_rfl, trivial, fun ac wd hS => ?_⟩
        simp only [ew7] at hS
        refine pop_block ?_
        refine pop_then ?_
        have ew8 : (IntKind.wrap .i64 (x9 + 1)) = (x9 + 1) := i64_in (x := (x9 + 1)) (by omega)
        refine St.region [⟨0, 0, 0⟩, ⟨0, 0, 0⟩] [4, 7, 8, 9] [0] hS fun _ => ⟨[(4, [], .int .i64 (x4 + (l.getD (Int.toNat x9) 0))), (7, [], .slice (some ⟨g, o, none⟩) l.length c), (8, [], .int .i64 ((l.length : Nat) : Int)), (9, [], .int .i64 (IntKind.wrap .i64 (x9 + 1)))], [(g, .fn o (o + l.length) (ints l o))], [], by as_aux_lemma => kernel_rfl, trivial, fun ac wd hS => ?_⟩
        simp only [ew8] at hS
        exact pop_then ⟨((x4 + (l.getD (Int.toNat x9) 0)), (x9 + 1)), ⟨(by first | omega | assumption | (simp; done) | (simp; omega)), (by first | omega | assumption | (simp; done) | (simp; omega)), (by first | omega | assumption | (simp; done) | (simp; omega)), (by rw [i3, hat (by omega)]; rw [show Int.toNat (x9 + 1) = Int.toNat x9 + 1 by omega]; simp_all)⟩, (by first | omega | (simp; omega) | (simp only []; omega)), hS⟩
  · have hb1o := hb1
    try simp only [decide_eq_true_eq, decide_eq_false_iff_not, beq_iff_eq, bne_iff_ne, beq_eq_false_iff_ne, bne_eq_false_iff_eq, Bool.and_eq_true, Bool.or_eq_true, Bool.and_eq_false_iff, Bool.or_eq_false_iff, Bool.not_eq_true', Bool.not_eq_false', ne_eq, Int.not_lt, Int.not_le, Bool.true_and, Bool.false_and, Bool.and_true, Bool.and_false, Bool.or_true, Bool.or_false, Bool.true_or, Bool.false_or, Bool.not_true, Bool.not_false, isSize_iff, whole_iff] at hb1
    refine wp_exit ?_
    refine pop_then_exit ?_
    refine pop_then_exit ?_
    refine pop_block_hit ?_
    refine pop_then ?_
    refine St.region_seq [⟨0, 0, 0⟩, ⟨0, 0, 0⟩, ⟨0, 0, 0⟩] [2, 3] [] hS fun _ => ⟨[(2, [], .int .i64 x4), (3, [], .bool true)], [], [], by as_aux_lemma => kernel_rfl, trivial, fun ac wd hS => ?_⟩
    refine wp_ret ?_
    refine St.ret 0 hS (v := .tuple #[.int .i64 x4, .bool true]) (obs := []) (by as_aux_lemma => kernel_rfl) trivial fun hw => ?_
    refine ⟨retd (tuple2 (vint ?_) (vbool ?_)), hw.fr⟩
    all_goals (first | (rw [i3, hat (by omega)]; simp_all; done) | (rw [i3, show Int.toNat x9 = l.length by omega]; simp [sumGo]))

set_option maxRecDepth 100000 in
set_option maxHeartbeats 4000000 in
theorem size_Sum_empty (ao : Option Addr) (c : Nat) (w : World) :
    Calls Try.prog 14 #[.slice ao 0 c] w fun e w' => e = .returned (.tuple #[.int .i64 0, .bool true]) ∧ Fr w w' [] [] := by
  refine enter (args := [.slice ao 0 c]) (A := []) Try.func14 rfl 28 rfl [] (WS.start (AllAr.nil w)) fun ac hS => ?_
  refine St.region_seq [⟨0, 0, 0⟩, ⟨0, 0, 0⟩] [0] [] hS fun _ => ⟨[(0, [], .slice ao 0 c)], [], [], by as_aux_lemma => kernel_rfl, trivial, fun ac wd hS => ?_⟩
  refine St.region_seq [⟨0, 0, 0⟩] [0, 4] [] hS fun _ => ⟨[(0, [], .slice ao 0 c), (4, [], .int .i64 0)], [], [], by as_aux_lemma => kernel_rfl, trivial, fun ac wd hS => ?_⟩
  refine wp_seq ?_
  refine St.region_seq [⟨0, 0, 0⟩, ⟨0, 0, 0⟩, ⟨0, 0, 0⟩] [4, 7, 8, 9] [] hS fun _ => ⟨[(4, [], .int .i64 0), (7, [], .slice ao 0 c), (8, [], .int .i64 0), (9, [], .int .i64 0)], [], [], by as_aux_lemma => kernel_rfl, trivial, fun ac wd hS => ?_⟩
  refine wp_block ?_
  refine St.loop (σ := Int × Int) (fun (x : Int × Int) => match x with | (x4, x9) => [(4, [], .int .i64 x4), (7, [], .slice ao 0 c), (8, [], .int .i64 0), (9, [], .int .i64 x9)]) (fun (x : Int × Int) => match x with | (x4, x9) => []) (fun (x : Int × Int) => match x with | (x4, x9) => []) (fun (x : Int × Int) => match x with | (x4, x9) => (x9 = 0) ∧ (x4 = 0)) (fun (x : Int × Int) => match x with | (x4, x9) => 0) (0, 0) ⟨(by rfl), (by rfl)⟩ hS ?_
  clear hS
  rintro ⟨x4, x9⟩ ⟨i0, i4⟩ ac wd hS
  replace hS : St _ 28 [(4, [], .int .i64 x4), (7, [], .slice ao 0 c), (8, [], .int .i64 0), (9, [], .int .i64 x9)] [] [] ac wd := hS
  replace i0 : x9 = 0 := i0
  replace i4 : x4 = 0 := i4
  refine St.region_seq [⟨0, 0, 0⟩] [4, 7, 8, 9, 10] [] hS fun _ => ⟨[(4, [], .int .i64 x4), (7, [], .slice ao 0 c), (8, [], .int .i64 0), (9, [], .int .i64 x9), (10, [], .bool (decide ((x9 : Int) < 0)))], [], [], by as_aux_lemma => kernel_rfl, trivial, fun ac wd hS => ?_⟩
  refine wp_seq ?_
  refine St.cond (b := (decide ((x9 : Int) < 0))) hS (by as_aux_lemma => kernel_rfl) (fun h => absurd h (by simp; omega)) (fun _ => ?_)
  refine wp_exit ?_
  refine pop_then_exit ?_
  refine pop_then_exit ?_
  refine pop_block_hit ?_
  refine pop_then ?_
  refine St.region_seq [⟨0, 0, 0⟩, ⟨0, 0, 0⟩, ⟨0, 0, 0⟩] [2, 3] [] hS fun _ => ⟨[(2, [], .int .i64 x4), (3, [], .bool true)], [], [], by as_aux_lemma => kernel_rfl, trivial, fun ac wd hS => ?_⟩
  refine wp_ret ?_
  refine St.ret 0 hS (v := .tuple #[.int .i64 x4, .bool true]) (obs := []) (by as_aux_lemma => kernel_rfl) trivial fun hw => ?_
  refine ⟨retd (tuple2 (vint ?_) rfl), hw.fr⟩
  all_goals (omega)

set_option maxRecDepth 100000 in
set_option maxHeartbeats 4000000 in
theorem ref01_Is (n : Int) (w : World) :
    Calls Try.prog 21 #[.int .i64 n] w fun e w' => e = .returned (.bool (isSize n)) ∧ Fr w w' [] [] := by
  refine enter (args := [.int .i64 n]) (A := []) Try.func21 rfl 9 rfl [] (WS.start (AllAr.nil w)) fun ac hS => ?_
  refine St.region_seq [⟨0, 0, 0⟩] [0] [] hS fun _ => ⟨[(0, [], .int .i64 n)], [], [], by as_aux_lemma => kernel_rfl, trivial, fun ac wd hS => ?_⟩
  refine St.region_seq [⟨0, 0, 0⟩, ⟨0, 0, 0⟩, ⟨0, 0, 0⟩, ⟨3, 0, 0⟩, ⟨3, 0, 0⟩, ⟨0, 8, 0⟩, ⟨0, 0, 0⟩] [2] [] hS fun _ => ⟨[(2, [], .bool ((decide ((0 : Int) ≤ n)) && (decide ((n : Int) ≤ 4294967296))))], [], [], by as_aux_lemma => kernel_rfl, trivial, fun ac wd hS => ?_⟩
  refine wp_ret ?_
  refine St.ret 0 hS (v := .bool ((decide ((0 : Int) ≤ n)) && (decide ((n : Int) ≤ 4294967296)))) (obs := []) (by as_aux_lemma => kernel_rfl) trivial fun hw => ?_
  refine ⟨retd (vbool ?_), hw.fr⟩
  all_goals (rfl)

set_option maxRecDepth 100000 in
set_option maxHeartbeats 4000000 in
theorem ref01_Whole (a : Int) (w : World) :
    Calls Try.prog 13 #[.int .i64 a] w fun e w' => e = .returned (.bool (whole a)) ∧ Fr w w' [] [] := by
  refine enter (args := [.int .i64 a]) (A := []) Try.func13 rfl 11 rfl [] (WS.start (AllAr.nil w)) fun ac hS => ?_
  refine St.region_seq [⟨0, 0, 0⟩] [0] [] hS fun _ => ⟨[(0, [], .int .i64 a)], [], [], by as_aux_lemma => kernel_rfl, trivial, fun ac wd hS => ?_⟩
  refine wp_seq ?_
  refine St.region_seq [⟨0, 0, 0⟩] [0, 3] [] hS fun _ => ⟨[(0, [], .int .i64 a), (3, [], .int .i64 1)], [], [], by as_aux_lemma => kernel_rfl, trivial, fun ac wd hS => ?_⟩
  refine wp_block ?_
  refine St.loop (σ := Int × Nat) (fun (x : Int × Nat) => match x with | (x3, j) => [(0, [], .int .i64 a), (3, [], .int .i64 x3)]) (fun (x : Int × Nat) => match x with | (x3, j) => []) (fun (x : Int × Nat) => match x with | (x3, j) => []) (fun (x : Int × Nat) => match x with | (x3, j) => (j ≤ 13) ∧ (x3 = ((2 ^ j : Nat) : Int)) ∧ (∀ i, i < j → a ≠ ((2 ^ i : Nat) : Int))) (fun (x : Int × Nat) => match x with | (x3, j) => 13 - j) (1, 0) ⟨(by first | omega | rfl), (by first | omega | rfl), (by first | omega | rfl)⟩ hS ?_
  clear hS
  rintro ⟨x3, j⟩ ⟨i0, i1, i2⟩ ac wd hS
  replace hS : St _ 11 [(0, [], .int .i64 a), (3, [], .int .i64 x3)] [] [] ac wd := hS
  replace i0 : j ≤ 13 := i0
  replace i1 : x3 = ((2 ^ j : Nat) : Int) := i1
  replace i2 : ∀ i, i < j → a ≠ ((2 ^ i : Nat) : Int) := i2
  have hpw : 1 ≤ 2 ^ j ∧ 2 ^ j ≤ 8192 := ⟨Nat.one_le_two_pow, Nat.le_trans (Nat.pow_le_pow_right (by omega) i0) (by decide)⟩
  have hj : x3 ≤ 4096 → j ≤ 12 := fun h => by rcases Nat.lt_or_ge 12 j with h1 | h1; (obtain rfl : j = 13 := by omega); (simp at i1; omega); exact h1
  refine wp_seq ?_
  refine St.region_seq [⟨0, 0, 0⟩, ⟨0, 0, 0⟩] [0, 3, 5] [] hS fun _ => ⟨[(0, [], .int .i64 a), (3, [], .int .i64 x3), (5, [], .bool (decide ((x3 : Int) ≤ 4096)))], [], [], by as_aux_lemma => kernel_rfl, trivial, fun ac wd hS => ?_⟩
  refine St.cond (b := (decide ((x3 : Int) ≤ 4096))) hS (by as_aux_lemma => kernel_rfl) (fun hb1 => ?_) (fun hb1 => ?_)
  · have hb1o := hb1
    try simp only [decide_eq_true_eq, decide_eq_false_iff_not, beq_iff_eq, bne_iff_ne, beq_eq_false_iff_ne, bne_eq_false_iff_eq, Bool.and_eq_true, Bool.or_eq_true, Bool.and_eq_false_iff, Bool.or_eq_false_iff, Bool.not_eq_true', Bool.not_eq_false', ne_eq, Int.not_lt, Int.not_le, Bool.true_and, Bool.false_and, Bool.and_true, Bool.and_false, Bool.or_true, Bool.or_false, Bool.true_or, Bool.false_or, Bool.not_true, Bool.not_false] at hb1
    refine wp_skip ?_
    refine pop_then ?_
    refine wp_seq ?_
    refine wp_block ?_
    refine St.region_seq [⟨0, 0, 0⟩, ⟨0, 0, 0⟩, ⟨0, 0, 0⟩] [0, 3, 10] [] hS fun _ => ⟨[(0, [], .int .i64 a), (3, [], .int .i64 x3), (10, [], .bool ((x3 : Int) == a))], [], [], by as_aux_lemma => kernel_rfl, trivial, fun ac wd hS => ?_⟩
    refine St.cond (b := ((x3 : Int) == a)) hS (by as_aux_lemma => kernel_rfl) (fun hb2 => ?_) (fun hb2 => ?_)
    · have hb2o := hb2
      try simp only [decide_eq_true_eq, decide_eq_false_iff_not, beq_iff_eq, bne_iff_ne, beq_eq_false_iff_ne, bne_eq_false_iff_eq, Bool.and_eq_true, Bool.or_eq_true, Bool.and_eq_false_iff, Bool.or_eq_false_iff, Bool.not_eq_true', Bool.not_eq_false', ne_eq, Int.not_lt, Int.not_le, Bool.true_and, Bool.false_and, Bool.and_true, Bool.and_false, Bool.or_true, Bool.or_false, Bool.true_or, Bool.false_or, Bool.not_true, Bool.not_false] at hb2
      refine St.region_seq [⟨0, 0, 0⟩] [2] [] hS fun _ => ⟨[(2, [], .bool true)], [], [], by as_aux_lemma => kernel_rfl, trivial, fun ac wd hS => ?_⟩
      refine wp_ret ?_
      refine pop_block_ret ?_
      refine pop_then_ret ?_
      refine pop_then_ret ?_
      refine pop_block_ret ?_
      refine pop_then_ret ?_
      refine St.ret 0 hS (v := .bool true) (obs := []) (by as_aux_lemma => kernel_rfl) trivial fun hw => ?_
      refine ⟨retd (vbool ?_), hw.fr⟩
      all_goals (first | (rw [← (by omega : x3 = a), i1, pow_whole (hj (by omega))]) | (symm; rw [Bool.eq_false_iff]; intro hw; obtain ⟨q, h1, h2⟩ := whole_pow hw; have : j = 13 := (by rcases Nat.lt_or_ge j 13 with h | h; exfalso; have : 2 ^ j ≤ 4096 := Nat.le_trans (Nat.pow_le_pow_right (by omega) (by omega : j ≤ 12)) (by decide); omega; omega); exact i2 q (by omega) h2))
    · have hb2o := hb2
      try simp only [decide_eq_true_eq, decide_eq_false_iff_not, beq_iff_eq, bne_iff_ne, beq_eq_false_iff_ne, bne_eq_false_iff_eq, Bool.and_eq_true, Bool.or_eq_true, Bool.and_eq_false_iff, Bool.or_eq_false_iff, Bool.not_eq_true', Bool.not_eq_false', ne_eq, Int.not_lt, Int.not_le, Bool.true_and, Bool.false_and, Bool.and_true, Bool.and_false, Bool.or_true, Bool.or_false, Bool.true_or, Bool.false_or, Bool.not_true, Bool.not_false] at hb2
      refine wp_skip ?_
      refine pop_block ?_
      refine pop_then ?_
      have ew3 : (IntKind.wrap .i64 (2 * x3)) = (2 * x3) := i64_in (x := (2 * x3)) (by omega)
      refine St.region [⟨0, 0, 0⟩, ⟨0, 0, 0⟩, ⟨0, 0, 0⟩] [0, 3] [] hS fun _ => ⟨[(0, [], .int .i64 a), (3, [], .int .i64 (IntKind.wrap .i64 (2 * x3)))], [], [], by as_aux_lemma => kernel_rfl, trivial, fun ac wd hS => ?_⟩
      simp only [ew3] at hS
      exact pop_then ⟨((2 * x3), (j + 1)), ⟨(by first | omega | assumption | (simp; done) | (simp; omega)), (by rw [i1, Nat.pow_succ]; omega), (by intro i hi; rcases Nat.lt_or_ge i j with h | h; exact i2 i h; (obtain rfl : i = j := by omega); rw [← i1]; omega)⟩, (by first | omega | (simp; omega) | (simp only []; omega)), hS⟩
  · have hb1o := hb1
    try simp only [decide_eq_true_eq, decide_eq_false_iff_not, beq_iff_eq, bne_iff_ne, beq_eq_false_iff_ne, bne_eq_false_iff_eq, Bool.and_eq_true, Bool.or_eq_true, Bool.and_eq_false_iff, Bool.or_eq_false_iff, Bool.not_eq_true', Bool.not_eq_false', ne_eq, Int.not_lt, Int.not_le, Bool.true_and, Bool.false_and, Bool.and_true, Bool.and_false, Bool.or_true, Bool.or_false, Bool.true_or, Bool.false_or, Bool.not_true, Bool.not_false] at hb1
    refine wp_exit ?_
    refine pop_then_exit ?_
    refine pop_then_exit ?_
    refine pop_block_hit ?_
    refine pop_then ?_
    refine St.region_seq [⟨0, 0, 0⟩] [2] [] hS fun _ => ⟨[(2, [], .bool false)], [], [], by as_aux_lemma => kernel_rfl, trivial, fun ac wd hS => ?_⟩
    refine wp_ret ?_
    refine St.ret 0 hS (v := .bool false) (obs := []) (by as_aux_lemma => kernel_rfl) trivial fun hw => ?_
    refine ⟨retd (vbool ?_), hw.fr⟩
    all_goals (first | (rw [← (by omega : x3 = a), i1, pow_whole (hj (by omega))]) | (symm; rw [Bool.eq_false_iff]; intro hw; obtain ⟨q, h1, h2⟩ := whole_pow hw; have : j = 13 := (by rcases Nat.lt_or_ge j 13 with h | h; exfalso; have : 2 ^ j ≤ 4096 := Nat.le_trans (Nat.pow_le_pow_right (by omega) (by omega : j ≤ 12)) (by decide); omega; omega); exact i2 q (by omega) h2))

set_option maxRecDepth 100000 in
set_option maxHeartbeats 4000000 in
theorem ref01_Up (n : Int) (a : Int) (w : World) :
    Calls Try.prog 9 #[.int .i64 n, .int .i64 a] w fun e w' => e = .returned (.tuple #[.int .i64 (upV n a), .bool (upOk n a)]) ∧ Fr w w' [] [] := by
  refine enter (args := [.int .i64 n, .int .i64 a]) (A := []) Try.func9 rfl 26 rfl [] (WS.start (AllAr.nil w)) fun ac hS => ?_
  refine St.region_seq [⟨0, 0, 0⟩, ⟨0, 0, 0⟩] [0, 1] [] hS fun _ => ⟨[(0, [], .int .i64 n), (1, [], .int .i64 a)], [], [], by as_aux_lemma => kernel_rfl, trivial, fun ac wd hS => ?_⟩
  refine wp_seq ?_
  refine wp_region_seq ?_
  refine St.ops 1 [⟨0, 0, 0⟩] [0, 1, 6] [] hS fun _ => ⟨[(0, [], .int .i64 n), (1, [], .int .i64 a), (6, [], .int .i64 n)], [], [], by as_aux_lemma => kernel_rfl, trivial, fun ac wd hS => ?_⟩
  refine St.call 0 0 hS (f := 21) (args := #[.int .i64 n]) (obs := []) (by as_aux_lemma => kernel_rfl) trivial (by as_aux_lemma => kernel_rfl) (ref01_Is n _ ) ?_
  rintro _ wd ⟨rfl, hF⟩
  refine ⟨.bool (isSize n), rfl, ?_⟩
  replace hS := St.put (d := 7) (v := .bool (isSize n)) (hS.to (hS.mem.keep0 hF)) (by decide)
  clear hF
  refine St.ops 2 [⟨0, 0, 0⟩, ⟨0, 0, 0⟩] [0, 1, 9] [] hS fun _ => ⟨[(0, [], .int .i64 n), (1, [], .int .i64 a), (9, [], .bool (!(isSize n)))], [], [], by as_aux_lemma => kernel_rfl, trivial, fun ac wd hS => ?_⟩
  rcases Bool.eq_false_or_eq_true (!(isSize n)) with hg1 | hg1
  · rw [hg1] at hS
    have hg1o := hg1
    try simp only [decide_eq_true_eq, decide_eq_false_iff_not, beq_iff_eq, bne_iff_ne, beq_eq_false_iff_ne, bne_eq_false_iff_eq, Bool.and_eq_true, Bool.or_eq_true, Bool.and_eq_false_iff, Bool.or_eq_false_iff, Bool.not_eq_true', Bool.not_eq_false', ne_eq, Int.not_lt, Int.not_le, Bool.true_and, Bool.false_and, Bool.and_true, Bool.and_false, Bool.or_true, Bool.or_false, Bool.true_or, Bool.false_or, Bool.not_true, Bool.not_false, isSize_iff, whole_iff] at hg1
    refine St.ops 4 [⟨2, 0, 0⟩, ⟨2, 0, 0⟩, ⟨2, 0, 0⟩, ⟨0, 7, 0⟩] [0, 1, 13] [] hS fun _ => ⟨[(0, [], .int .i64 n), (1, [], .int .i64 a), (13, [], .bool true)], [], [(.bool true : Value) = .bool true, (.bool true : Value) = .bool (!false), (.bool true : Value) = .bool (!false), (.bool true : Value) = .bool (!false)], by as_aux_lemma => kernel_rfl, ⟨rfl, rfl, rfl, rfl, trivial⟩, fun ac wd hS => ?_⟩
    refine list_nil_seq ?_
    refine St.cond (b := true) hS (by as_aux_lemma => kernel_rfl) (fun _ => ?_) (fun h => nomatch h)
    refine St.region_seq [⟨0, 0, 0⟩, ⟨0, 0, 0⟩] [4, 5] [] hS fun _ => ⟨[(4, [], .int .i64 0), (5, [], .bool false)], [], [], by as_aux_lemma => kernel_rfl, trivial, fun ac wd hS => ?_⟩
    refine wp_ret ?_
    refine pop_then_ret ?_
    refine St.ret 0 hS (v := .tuple #[.int .i64 0, .bool false]) (obs := []) (by as_aux_lemma => kernel_rfl) trivial fun hw => ?_
    refine ⟨retd (tuple2 (vint ?_) (vbool ?_)), hw.fr⟩
    all_goals (first | (simp_all [upV, upOk]; done) | exact (up_hand (by simp_all) (by simp_all)).1 (by omega) | exact (up_hand (by simp_all) (by simp_all)).2 (by omega))
  · rw [hg1] at hS
    have hg1o := hg1
    try simp only [decide_eq_true_eq, decide_eq_false_iff_not, beq_iff_eq, bne_iff_ne, beq_eq_false_iff_ne, bne_eq_false_iff_eq, Bool.and_eq_true, Bool.or_eq_true, Bool.and_eq_false_iff, Bool.or_eq_false_iff, Bool.not_eq_true', Bool.not_eq_false', ne_eq, Int.not_lt, Int.not_le, Bool.true_and, Bool.false_and, Bool.and_true, Bool.and_false, Bool.or_true, Bool.or_false, Bool.true_or, Bool.false_or, Bool.not_true, Bool.not_false, isSize_iff, whole_iff] at hg1
    refine St.ops 1 [⟨1, 0, 0⟩] [0, 1, 9, 10] [] hS fun _ => ⟨[(0, [], .int .i64 n), (1, [], .int .i64 a), (9, [], .bool false), (10, [], .int .i64 a)], [], [(.bool false : Value) = .bool false], by as_aux_lemma => kernel_rfl, ⟨rfl, trivial⟩, fun ac wd hS => ?_⟩
    refine St.call 1 0 hS (f := 13) (args := #[.int .i64 a]) (obs := [(.bool false : Value) = .bool false]) (by as_aux_lemma => kernel_rfl) ⟨rfl, trivial⟩ (by as_aux_lemma => kernel_rfl) (ref01_Whole a _ ) ?_
    rintro _ wd ⟨rfl, hF⟩
    refine ⟨.bool (whole a), rfl, ?_⟩
    replace hS := St.put (d := 11) (v := .bool (whole a)) (hS.to (hS.mem.keep0 hF)) (by decide)
    clear hF
    refine St.ops 2 [⟨1, 0, 0⟩, ⟨0, 6, 0⟩] [0, 1, 13] [] hS fun _ => ⟨[(0, [], .int .i64 n), (1, [], .int .i64 a), (13, [], .bool (!(whole a)))], [], [(.bool false : Value) = .bool false, (.bool false : Value) = .bool false], by as_aux_lemma => kernel_rfl, ⟨rfl, rfl, trivial⟩, fun ac wd hS => ?_⟩
    refine list_nil_seq ?_
    refine St.cond (b := (!(whole a))) hS (by as_aux_lemma => kernel_rfl) (fun hb3 => ?_) (fun hb3 => ?_)
    · have hb3o := hb3
      try simp only [decide_eq_true_eq, decide_eq_false_iff_not, beq_iff_eq, bne_iff_ne, beq_eq_false_iff_ne, bne_eq_false_iff_eq, Bool.and_eq_true, Bool.or_eq_true, Bool.and_eq_false_iff, Bool.or_eq_false_iff, Bool.not_eq_true', Bool.not_eq_false', ne_eq, Int.not_lt, Int.not_le, Bool.true_and, Bool.false_and, Bool.and_true, Bool.and_false, Bool.or_true, Bool.or_false, Bool.true_or, Bool.false_or, Bool.not_true, Bool.not_false, isSize_iff, whole_iff] at hb3
      refine St.region_seq [⟨0, 0, 0⟩, ⟨0, 0, 0⟩] [4, 5] [] hS fun _ => ⟨[(4, [], .int .i64 0), (5, [], .bool false)], [], [], by as_aux_lemma => kernel_rfl, trivial, fun ac wd hS => ?_⟩
      refine wp_ret ?_
      refine pop_then_ret ?_
      refine St.ret 0 hS (v := .tuple #[.int .i64 0, .bool false]) (obs := []) (by as_aux_lemma => kernel_rfl) trivial fun hw => ?_
      refine ⟨retd (tuple2 (vint ?_) (vbool ?_)), hw.fr⟩
      all_goals (first | (simp_all [upV, upOk]; done) | exact (up_hand (by simp_all) (by simp_all)).1 (by omega) | exact (up_hand (by simp_all) (by simp_all)).2 (by omega))
    · have hb3o := hb3
      try simp only [decide_eq_true_eq, decide_eq_false_iff_not, beq_iff_eq, bne_iff_ne, beq_eq_false_iff_ne, bne_eq_false_iff_eq, Bool.and_eq_true, Bool.or_eq_true, Bool.and_eq_false_iff, Bool.or_eq_false_iff, Bool.not_eq_true', Bool.not_eq_false', ne_eq, Int.not_lt, Int.not_le, Bool.true_and, Bool.false_and, Bool.and_true, Bool.and_false, Bool.or_true, Bool.or_false, Bool.true_or, Bool.false_or, Bool.not_true, Bool.not_false, isSize_iff, whole_iff] at hb3
      have hmod : 0 ≤ n % a ∧ n % a < a := ⟨Int.emod_nonneg _ (by omega), Int.emod_lt_of_pos _ (by omega)⟩
      refine wp_skip ?_
      refine pop_then ?_
      refine wp_seq ?_
      have ew4 : (Int.tmod n a) = (n % a) := rem_in (x := n) (d := a) (by omega)
      refine St.region_seq [⟨0, 0, 0⟩, ⟨0, 0, 0⟩, ⟨0, 1, 0⟩, ⟨0, 0, 0⟩] [0, 1, 17] [] hS fun _ => ⟨[(0, [], .int .i64 n), (1, [], .int .i64 a), (17, [], .bool (((Int.tmod n a) : Int) == 0))], [], [a ≠ 0], by as_aux_lemma => kernel_rfl, ⟨(by (try simp only [ew4]); first | omega | (simp; omega) | (simp_all; done) | (simp_all; omega)), trivial⟩, fun ac wd hS => ?_⟩
      simp only [ew4] at hS
      refine St.cond (b := (((n % a) : Int) == 0)) hS (by as_aux_lemma => kernel_rfl) (fun hb5 => ?_) (fun hb5 => ?_)
      · have hb5o := hb5
        try simp only [decide_eq_true_eq, decide_eq_false_iff_not, beq_iff_eq, bne_iff_ne, beq_eq_false_iff_ne, bne_eq_false_iff_eq, Bool.and_eq_true, Bool.or_eq_true, Bool.and_eq_false_iff, Bool.or_eq_false_iff, Bool.not_eq_true', Bool.not_eq_false', ne_eq, Int.not_lt, Int.not_le, Bool.true_and, Bool.false_and, Bool.and_true, Bool.and_false, Bool.or_true, Bool.or_false, Bool.true_or, Bool.false_or, Bool.not_true, Bool.not_false, isSize_iff, whole_iff] at hb5
        refine St.region_seq [⟨0, 0, 0⟩, ⟨0, 0, 0⟩, ⟨0, 0, 0⟩] [4, 5] [] hS fun _ => ⟨[(4, [], .int .i64 n), (5, [], .bool true)], [], [], by as_aux_lemma => kernel_rfl, trivial, fun ac wd hS => ?_⟩
        refine wp_ret ?_
        refine pop_then_ret ?_
        refine St.ret 0 hS (v := .tuple #[.int .i64 n, .bool true]) (obs := []) (by as_aux_lemma => kernel_rfl) trivial fun hw => ?_
        refine ⟨retd (tuple2 (vint ?_) (vbool ?_)), hw.fr⟩
        all_goals (first | (simp_all [upV, upOk]; done) | exact (up_hand (by simp_all) (by simp_all)).1 (by omega) | exact (up_hand (by simp_all) (by simp_all)).2 (by omega))
      · have hb5o := hb5
        try simp only [decide_eq_true_eq, decide_eq_false_iff_not, beq_iff_eq, bne_iff_ne, beq_eq_false_iff_ne, bne_eq_false_iff_eq, Bool.and_eq_true, Bool.or_eq_true, Bool.and_eq_false_iff, Bool.or_eq_false_iff, Bool.not_eq_true', Bool.not_eq_false', ne_eq, Int.not_lt, Int.not_le, Bool.true_and, Bool.false_and, Bool.and_true, Bool.and_false, Bool.or_true, Bool.or_false, Bool.true_or, Bool.false_or, Bool.not_true, Bool.not_false, isSize_iff, whole_iff] at hb5
        refine wp_skip ?_
        refine pop_then ?_
        have ew6 : (Int.tmod n a) = (n % a) := rem_in (x := n) (d := a) (by omega)
        have ew7 : (IntKind.wrap .i64 (n - (n % a))) = (n - (n % a)) := i64_in (x := (n - (n % a))) (by omega)
        have ew8 : (IntKind.wrap .i64 ((n - (n % a)) + a)) = ((n - (n % a)) + a) := i64_in (x := ((n - (n % a)) + a)) (by omega)
        refine St.region_seq [⟨0, 0, 0⟩, ⟨0, 0, 0⟩, ⟨0, 0, 0⟩, ⟨0, 1, 0⟩, ⟨0, 0, 0⟩, ⟨0, 0, 0⟩, ⟨0, 0, 0⟩, ⟨0, 0, 0⟩, ⟨0, 0, 0⟩] [4, 5] [] hS fun _ => ⟨[(4, [], .int .i64 (IntKind.wrap .i64 ((IntKind.wrap .i64 (n - (Int.tmod n a))) + a))), (5, [], .bool true)], [], [a ≠ 0], by as_aux_lemma => kernel_rfl, ⟨(by (try simp only [ew6, ew7, ew8]); first | omega | (simp; omega) | (simp_all; done) | (simp_all; omega)), trivial⟩, fun ac wd hS => ?_⟩
        simp only [ew6, ew7, ew8] at hS
        refine wp_ret ?_
        refine St.ret 0 hS (v := .tuple #[.int .i64 ((n - (n % a)) + a), .bool true]) (obs := []) (by as_aux_lemma => kernel_rfl) trivial fun hw => ?_
        refine ⟨retd (tuple2 (vint ?_) (vbool ?_)), hw.fr⟩
        all_goals (first | (simp_all [upV, upOk]; done) | exact (up_hand (by simp_all) (by simp_all)).1 (by omega) | exact (up_hand (by simp_all) (by simp_all)).2 (by omega))

set_option maxRecDepth 100000 in
set_option maxHeartbeats 4000000 in
theorem ref01_Pages (n : Int) (w : World) :
    Calls Try.prog 11 #[.int .i64 n] w fun e w' => e = .returned (.tuple #[.int .i64 (pagesV n), .bool (isSize n)]) ∧ Fr w w' [] [] := by
  refine enter (args := [.int .i64 n]) (A := []) Try.func11 rfl 16 rfl [] (WS.start (AllAr.nil w)) fun ac hS => ?_
  refine St.region_seq [⟨0, 0, 0⟩, ⟨0, 0, 0⟩] [0] [] hS fun _ => ⟨[(0, [], .int .i64 n)], [], [], by as_aux_lemma => kernel_rfl, trivial, fun ac wd hS => ?_⟩
  refine wp_seq ?_
  refine wp_region_seq ?_
  refine St.ops 1 [⟨0, 0, 0⟩] [0, 5] [] hS fun _ => ⟨[(0, [], .int .i64 n), (5, [], .int .i64 n)], [], [], by as_aux_lemma => kernel_rfl, trivial, fun ac wd hS => ?_⟩
  refine St.call 0 0 hS (f := 21) (args := #[.int .i64 n]) (obs := []) (by as_aux_lemma => kernel_rfl) trivial (by as_aux_lemma => kernel_rfl) (ref01_Is n _ ) ?_
  rintro _ wd ⟨rfl, hF⟩
  refine ⟨.bool (isSize n), rfl, ?_⟩
  replace hS := St.put (d := 6) (v := .bool (isSize n)) (hS.to (hS.mem.keep0 hF)) (by decide)
  clear hF
  refine St.ops 1 [⟨0, 0, 0⟩] [0, 7] [] hS fun _ => ⟨[(0, [], .int .i64 n), (7, [], .bool (!(isSize n)))], [], [], by as_aux_lemma => kernel_rfl, trivial, fun ac wd hS => ?_⟩
  refine list_nil_seq ?_
  refine St.cond (b := (!(isSize n))) hS (by as_aux_lemma => kernel_rfl) (fun hb1 => ?_) (fun hb1 => ?_)
  · have hb1o := hb1
    try simp only [decide_eq_true_eq, decide_eq_false_iff_not, beq_iff_eq, bne_iff_ne, beq_eq_false_iff_ne, bne_eq_false_iff_eq, Bool.and_eq_true, Bool.or_eq_true, Bool.and_eq_false_iff, Bool.or_eq_false_iff, Bool.not_eq_true', Bool.not_eq_false', ne_eq, Int.not_lt, Int.not_le, Bool.true_and, Bool.false_and, Bool.and_true, Bool.and_false, Bool.or_true, Bool.or_false, Bool.true_or, Bool.false_or, Bool.not_true, Bool.not_false, isSize_iff, whole_iff] at hb1
    refine St.region_seq [⟨0, 0, 0⟩, ⟨0, 0, 0⟩] [2, 3] [] hS fun _ => ⟨[(2, [], .int .i64 0), (3, [], .bool false)], [], [], by as_aux_lemma => kernel_rfl, trivial, fun ac wd hS => ?_⟩
    refine wp_ret ?_
    refine pop_then_ret ?_
    refine St.ret 0 hS (v := .tuple #[.int .i64 0, .bool false]) (obs := []) (by as_aux_lemma => kernel_rfl) trivial fun hw => ?_
    refine ⟨retd (tuple2 (vint ?_) (vbool ?_)), hw.fr⟩
    all_goals (first | (simp_all [pagesV]; done) | (simp only [pagesV]; rw [if_pos (by simp_all)]; omega))
  · have hb1o := hb1
    try simp only [decide_eq_true_eq, decide_eq_false_iff_not, beq_iff_eq, bne_iff_ne, beq_eq_false_iff_ne, bne_eq_false_iff_eq, Bool.and_eq_true, Bool.or_eq_true, Bool.and_eq_false_iff, Bool.or_eq_false_iff, Bool.not_eq_true', Bool.not_eq_false', ne_eq, Int.not_lt, Int.not_le, Bool.true_and, Bool.false_and, Bool.and_true, Bool.and_false, Bool.or_true, Bool.or_false, Bool.true_or, Bool.false_or, Bool.not_true, Bool.not_false, isSize_iff, whole_iff] at hb1
    refine wp_skip ?_
    refine pop_then ?_
    have ew2 : (IntKind.wrap .i64 (Int.tdiv n 4096)) = (n / 4096) := quo_in (x := n) (d := 4096) (by omega) (by omega) (by omega)
    refine St.region_seq [⟨0, 0, 0⟩, ⟨0, 0, 0⟩, ⟨0, 0, 0⟩] [0, 4] [] hS fun _ => ⟨[(0, [], .int .i64 n), (4, [], .int .i64 (IntKind.wrap .i64 (Int.tdiv n 4096)))], [], [], by as_aux_lemma => kernel_rfl, trivial, fun ac wd hS => ?_⟩
    simp only [ew2] at hS
    refine wp_seq ?_
    have ew3 : (Int.tmod n 4096) = (n % 4096) := rem_in (x := n) (d := 4096) (by omega)
    refine St.region_seq [⟨0, 0, 0⟩, ⟨0, 0, 0⟩, ⟨0, 0, 0⟩] [4, 12] [] hS fun _ => ⟨[(4, [], .int .i64 (n / 4096)), (12, [], .bool (decide ((0 : Int) < (Int.tmod n 4096))))], [], [], by as_aux_lemma => kernel_rfl, trivial, fun ac wd hS => ?_⟩
    simp only [ew3] at hS
    refine St.cond (b := (decide ((0 : Int) < (n % 4096)))) hS (by as_aux_lemma => kernel_rfl) (fun hb4 => ?_) (fun hb4 => ?_)
    · have hb4o := hb4
      try simp only [decide_eq_true_eq, decide_eq_false_iff_not, beq_iff_eq, bne_iff_ne, beq_eq_false_iff_ne, bne_eq_false_iff_eq, Bool.and_eq_true, Bool.or_eq_true, Bool.and_eq_false_iff, Bool.or_eq_false_iff, Bool.not_eq_true', Bool.not_eq_false', ne_eq, Int.not_lt, Int.not_le, Bool.true_and, Bool.false_and, Bool.and_true, Bool.and_false, Bool.or_true, Bool.or_false, Bool.true_or, Bool.false_or, Bool.not_true, Bool.not_false, isSize_iff, whole_iff] at hb4
      have ew5 : (IntKind.wrap .i64 ((n / 4096) + 1)) = ((n / 4096) + 1) := i64_in (x := ((n / 4096) + 1)) (by omega)
      refine St.region [⟨0, 0, 0⟩, ⟨0, 0, 0⟩, ⟨0, 0, 0⟩] [4] [] hS fun _ => ⟨[(4, [], .int .i64 (IntKind.wrap .i64 ((n / 4096) + 1)))], [], [], by as_aux_lemma => kernel_rfl, trivial, fun ac wd hS => ?_⟩
      simp only [ew5] at hS
      refine pop_then ?_
      refine St.region_seq [⟨0, 0, 0⟩, ⟨0, 0, 0⟩, ⟨0, 0, 0⟩] [2, 3] [] hS fun _ => ⟨[(2, [], .int .i64 ((n / 4096) + 1)), (3, [], .bool true)], [], [], by as_aux_lemma => kernel_rfl, trivial, fun ac wd hS => ?_⟩
      refine wp_ret ?_
      refine St.ret 0 hS (v := .tuple #[.int .i64 ((n / 4096) + 1), .bool true]) (obs := []) (by as_aux_lemma => kernel_rfl) trivial fun hw => ?_
      refine ⟨retd (tuple2 (vint ?_) (vbool ?_)), hw.fr⟩
      all_goals (first | (simp_all [pagesV]; done) | (simp only [pagesV]; rw [if_pos (by simp_all)]; omega))
    · have hb4o := hb4
      try simp only [decide_eq_true_eq, decide_eq_false_iff_not, beq_iff_eq, bne_iff_ne, beq_eq_false_iff_ne, bne_eq_false_iff_eq, Bool.and_eq_true, Bool.or_eq_true, Bool.and_eq_false_iff, Bool.or_eq_false_iff, Bool.not_eq_true', Bool.not_eq_false', ne_eq, Int.not_lt, Int.not_le, Bool.true_and, Bool.false_and, Bool.and_true, Bool.and_false, Bool.or_true, Bool.or_false, Bool.true_or, Bool.false_or, Bool.not_true, Bool.not_false, isSize_iff, whole_iff] at hb4
      refine wp_skip ?_
      refine pop_then ?_
      refine St.region_seq [⟨0, 0, 0⟩, ⟨0, 0, 0⟩, ⟨0, 0, 0⟩] [2, 3] [] hS fun _ => ⟨[(2, [], .int .i64 (n / 4096)), (3, [], .bool true)], [], [], by as_aux_lemma => kernel_rfl, trivial, fun ac wd hS => ?_⟩
      refine wp_ret ?_
      refine St.ret 0 hS (v := .tuple #[.int .i64 (n / 4096), .bool true]) (obs := []) (by as_aux_lemma => kernel_rfl) trivial fun hw => ?_
      refine ⟨retd (tuple2 (vint ?_) (vbool ?_)), hw.fr⟩
      all_goals (first | (simp_all [pagesV]; done) | (simp only [pagesV]; rw [if_pos (by simp_all)]; omega))

set_option maxRecDepth 100000 in
set_option maxHeartbeats 4000000 in
theorem ref01_Order (p : Int) (w : World) :
    Calls Try.prog 17 #[.int .i64 p] w fun e w' => e = .returned (.tuple #[.int .i64 (ordV p), .bool (ordOk p)]) ∧ Fr w w' [] [] := by
  refine enter (args := [.int .i64 p]) (A := []) Try.func17 rfl 20 rfl [] (WS.start (AllAr.nil w)) fun ac hS => ?_
  refine St.region_seq [⟨0, 0, 0⟩, ⟨0, 0, 0⟩] [0] [] hS fun _ => ⟨[(0, [], .int .i64 p)], [], [], by as_aux_lemma => kernel_rfl, trivial, fun ac wd hS => ?_⟩
  refine St.region_seq [⟨0, 0, 0⟩] [0, 4] [] hS fun _ => ⟨[(0, [], .int .i64 p), (4, [], .int .i64 1)], [], [], by as_aux_lemma => kernel_rfl, trivial, fun ac wd hS => ?_⟩
  refine wp_seq ?_
  refine St.region_seq [⟨0, 0, 0⟩] [0, 4, 5] [] hS fun _ => ⟨[(0, [], .int .i64 p), (4, [], .int .i64 1), (5, [], .int .i64 0)], [], [], by as_aux_lemma => kernel_rfl, trivial, fun ac wd hS => ?_⟩
  refine wp_block ?_
  refine St.loop (σ := Int × Int) (fun (x : Int × Int) => match x with | (x4, x5) => [(0, [], .int .i64 p), (4, [], .int .i64 x4), (5, [], .int .i64 x5)]) (fun (x : Int × Int) => match x with | (x4, x5) => []) (fun (x : Int × Int) => match x with | (x4, x5) => []) (fun (x : Int × Int) => match x with | (x4, x5) => (0 ≤ x5 ∧ x5 ≤ 11) ∧ (x4 = 2 ^ x5.toNat) ∧ (p < 1 ∨ x5 = 0 ∨ x4 < 2 * p)) (fun (x : Int × Int) => match x with | (x4, x5) => 11 - x5.toNat) (1, 0) ⟨(by first | omega | rfl | simp), (by first | omega | rfl | simp), (by first | omega | rfl | simp)⟩ hS ?_
  clear hS
  rintro ⟨x4, x5⟩ ⟨i0, i1, i2⟩ ac wd hS
  replace hS : St _ 20 [(0, [], .int .i64 p), (4, [], .int .i64 x4), (5, [], .int .i64 x5)] [] [] ac wd := hS
  replace i0 : 0 ≤ x5 ∧ x5 ≤ 11 := i0
  replace i1 : x4 = 2 ^ x5.toNat := i1
  replace i2 : p < 1 ∨ x5 = 0 ∨ x4 < 2 * p := i2
  have hpw := pow_bd i0.1 i0.2
  have hps := pow_succ' i0.1
  refine wp_seq ?_
  refine St.region_seq [⟨0, 0, 0⟩, ⟨0, 0, 0⟩] [0, 4, 5, 7] [] hS fun _ => ⟨[(0, [], .int .i64 p), (4, [], .int .i64 x4), (5, [], .int .i64 x5), (7, [], .bool (decide ((x5 : Int) ≤ 10)))], [], [], by as_aux_lemma => kernel_rfl, trivial, fun ac wd hS => ?_⟩
  refine St.cond (b := (decide ((x5 : Int) ≤ 10))) hS (by as_aux_lemma => kernel_rfl) (fun hb1 => ?_) (fun hb1 => ?_)
  · have hb1o := hb1
    try simp only [decide_eq_true_eq, decide_eq_false_iff_not, beq_iff_eq, bne_iff_ne, beq_eq_false_iff_ne, bne_eq_false_iff_eq, Bool.and_eq_true, Bool.or_eq_true, Bool.and_eq_false_iff, Bool.or_eq_false_iff, Bool.not_eq_true', Bool.not_eq_false', ne_eq, Int.not_lt, Int.not_le, Bool.true_and, Bool.false_and, Bool.and_true, Bool.and_false, Bool.or_true, Bool.or_false, Bool.true_or, Bool.false_or, Bool.not_true, Bool.not_false] at hb1
    refine wp_skip ?_
    refine pop_then ?_
    refine wp_seq ?_
    refine wp_block ?_
    refine wp_seq ?_
    refine St.region_seq [⟨0, 0, 0⟩, ⟨0, 0, 0⟩, ⟨0, 0, 0⟩, ⟨3, 0, 0⟩, ⟨3, 0, 0⟩, ⟨3, 0, 0⟩, ⟨0, 8, 0⟩] [0, 4, 5, 16] [] hS fun _ => ⟨[(0, [], .int .i64 p), (4, [], .int .i64 x4), (5, [], .int .i64 x5), (16, [], .bool ((decide ((1 : Int) ≤ p)) && (decide ((p : Int) ≤ x4))))], [], [], by as_aux_lemma => kernel_rfl, trivial, fun ac wd hS => ?_⟩
    refine St.cond (b := ((decide ((1 : Int) ≤ p)) && (decide ((p : Int) ≤ x4)))) hS (by as_aux_lemma => kernel_rfl) (fun hb2 => ?_) (fun hb2 => ?_)
    · have hb2o := hb2
      try simp only [decide_eq_true_eq, decide_eq_false_iff_not, beq_iff_eq, bne_iff_ne, beq_eq_false_iff_ne, bne_eq_false_iff_eq, Bool.and_eq_true, Bool.or_eq_true, Bool.and_eq_false_iff, Bool.or_eq_false_iff, Bool.not_eq_true', Bool.not_eq_false', ne_eq, Int.not_lt, Int.not_le, Bool.true_and, Bool.false_and, Bool.and_true, Bool.and_false, Bool.or_true, Bool.or_false, Bool.true_or, Bool.false_or, Bool.not_true, Bool.not_false] at hb2
      refine St.region_seq [⟨0, 0, 0⟩, ⟨0, 0, 0⟩, ⟨0, 0, 0⟩] [2, 3] [] hS fun _ => ⟨[(2, [], .int .i64 x5), (3, [], .bool true)], [], [], by as_aux_lemma => kernel_rfl, trivial, fun ac wd hS => ?_⟩
      refine wp_ret ?_
      refine pop_then_ret ?_
      refine pop_block_ret ?_
      refine pop_then_ret ?_
      refine pop_then_ret ?_
      refine pop_block_ret ?_
      refine pop_then_ret ?_
      refine St.ret 0 hS (v := .tuple #[.int .i64 x5, .bool true]) (obs := []) (by as_aux_lemma => kernel_rfl) trivial fun hw => ?_
      refine ⟨retd (tuple2 (vint ?_) (vbool ?_)), hw.fr⟩
      all_goals (first | exact (ord_step i0.1 (by omega) i1 (by omega) (by omega) (by omega)).2.symm | exact (ord_step i0.1 (by omega) i1 (by omega) (by omega) (by omega)).1.symm | ((obtain rfl : x5 = 11 := by omega); have i1 : x4 = 2048 := i1; simp only [ordV, ordOk]; simp; omega))
    · have hb2o := hb2
      try simp only [decide_eq_true_eq, decide_eq_false_iff_not, beq_iff_eq, bne_iff_ne, beq_eq_false_iff_ne, bne_eq_false_iff_eq, Bool.and_eq_true, Bool.or_eq_true, Bool.and_eq_false_iff, Bool.or_eq_false_iff, Bool.not_eq_true', Bool.not_eq_false', ne_eq, Int.not_lt, Int.not_le, Bool.true_and, Bool.false_and, Bool.and_true, Bool.and_false, Bool.or_true, Bool.or_false, Bool.true_or, Bool.false_or, Bool.not_true, Bool.not_false] at hb2
      refine wp_skip ?_
      refine pop_then ?_
      have ew3 : (IntKind.wrap .i64 (2 * x4)) = (2 * x4) := i64_in (x := (2 * x4)) (by omega)
      refine St.region [⟨0, 0, 0⟩, ⟨0, 0, 0⟩, ⟨0, 0, 0⟩] [0, 4, 5] [] hS fun _ => ⟨[(0, [], .int .i64 p), (4, [], .int .i64 (IntKind.wrap .i64 (2 * x4))), (5, [], .int .i64 x5)], [], [], by as_aux_lemma => kernel_rfl, trivial, fun ac wd hS => ?_⟩
      simp only [ew3] at hS
      refine pop_block ?_
      refine pop_then ?_
      have ew4 : (IntKind.wrap .i64 (x5 + 1)) = (x5 + 1) := i64_in (x := (x5 + 1)) (by omega)
      refine St.region [⟨0, 0, 0⟩, ⟨0, 0, 0⟩, ⟨0, 0, 0⟩] [0, 4, 5] [] hS fun _ => ⟨[(0, [], .int .i64 p), (4, [], .int .i64 (2 * x4)), (5, [], .int .i64 (IntKind.wrap .i64 (x5 + 1)))], [], [], by as_aux_lemma => kernel_rfl, trivial, fun ac wd hS => ?_⟩
      simp only [ew4] at hS
      exact pop_then ⟨((2 * x4), (x5 + 1)), ⟨(by first | omega | assumption | (simp; done) | (simp; omega)), (by rw [hps]; omega), (by first | omega | assumption | (simp; done) | (simp; omega))⟩, (by first | omega | (simp; omega) | (simp only []; omega)), hS⟩
  · have hb1o := hb1
    try simp only [decide_eq_true_eq, decide_eq_false_iff_not, beq_iff_eq, bne_iff_ne, beq_eq_false_iff_ne, bne_eq_false_iff_eq, Bool.and_eq_true, Bool.or_eq_true, Bool.and_eq_false_iff, Bool.or_eq_false_iff, Bool.not_eq_true', Bool.not_eq_false', ne_eq, Int.not_lt, Int.not_le, Bool.true_and, Bool.false_and, Bool.and_true, Bool.and_false, Bool.or_true, Bool.or_false, Bool.true_or, Bool.false_or, Bool.not_true, Bool.not_false] at hb1
    refine wp_exit ?_
    refine pop_then_exit ?_
    refine pop_then_exit ?_
    refine pop_block_hit ?_
    refine pop_then ?_
    refine St.region_seq [⟨0, 0, 0⟩, ⟨0, 0, 0⟩] [2, 3] [] hS fun _ => ⟨[(2, [], .int .i64 0), (3, [], .bool false)], [], [], by as_aux_lemma => kernel_rfl, trivial, fun ac wd hS => ?_⟩
    refine wp_ret ?_
    refine St.ret 0 hS (v := .tuple #[.int .i64 0, .bool false]) (obs := []) (by as_aux_lemma => kernel_rfl) trivial fun hw => ?_
    refine ⟨retd (tuple2 (vint ?_) (vbool ?_)), hw.fr⟩
    all_goals (first | exact (ord_step i0.1 (by omega) i1 (by omega) (by omega) (by omega)).2.symm | exact (ord_step i0.1 (by omega) i1 (by omega) (by omega) (by omega)).1.symm | ((obtain rfl : x5 = 11 := by omega); have i1 : x4 = 2048 := i1; simp only [ordV, ordOk]; simp; omega))

set_option maxRecDepth 100000 in
set_option maxHeartbeats 4000000 in
theorem ref01_Span (o : Int) (w : World) :
    Calls Try.prog 19 #[.int .i64 o] w fun e w' => e = .returned (.int .i64 (spanV o)) ∧ Fr w w' [] [] := by
  refine enter (args := [.int .i64 o]) (A := []) Try.func19 rfl 19 rfl [] (WS.start (AllAr.nil w)) fun ac hS => ?_
  refine St.region_seq [⟨0, 0, 0⟩] [0] [] hS fun _ => ⟨[(0, [], .int .i64 o)], [], [], by as_aux_lemma => kernel_rfl, trivial, fun ac wd hS => ?_⟩
  refine wp_seq ?_
  refine St.region_seq [⟨0, 0, 0⟩, ⟨0, 0, 0⟩, ⟨0, 0, 0⟩, ⟨3, 0, 0⟩, ⟨3, 0, 0⟩, ⟨0, 8, 0⟩] [0, 10] [] hS fun _ => ⟨[(0, [], .int .i64 o), (10, [], .bool ((decide ((o : Int) < 0)) || (decide ((10 : Int) < o))))], [], [], by as_aux_lemma => kernel_rfl, trivial, fun ac wd hS => ?_⟩
  refine St.cond (b := ((decide ((o : Int) < 0)) || (decide ((10 : Int) < o)))) hS (by as_aux_lemma => kernel_rfl) (fun hb1 => ?_) (fun hb1 => ?_)
  · have hb1o := hb1
    try simp only [decide_eq_true_eq, decide_eq_false_iff_not, beq_iff_eq, bne_iff_ne, beq_eq_false_iff_ne, bne_eq_false_iff_eq, Bool.and_eq_true, Bool.or_eq_true, Bool.and_eq_false_iff, Bool.or_eq_false_iff, Bool.not_eq_true', Bool.not_eq_false', ne_eq, Int.not_lt, Int.not_le, Bool.true_and, Bool.false_and, Bool.and_true, Bool.and_false, Bool.or_true, Bool.or_false, Bool.true_or, Bool.false_or, Bool.not_true, Bool.not_false] at hb1
    refine St.region_seq [⟨0, 0, 0⟩] [2] [] hS fun _ => ⟨[(2, [], .int .i64 0)], [], [], by as_aux_lemma => kernel_rfl, trivial, fun ac wd hS => ?_⟩
    refine wp_ret ?_
    refine pop_then_ret ?_
    refine St.ret 0 hS (v := .int .i64 0) (obs := []) (by as_aux_lemma => kernel_rfl) trivial fun hw => ?_
    refine ⟨retd (vint ?_), hw.fr⟩
    all_goals (first | (rw [i1, show x4 = o by omega]) | (rw [spanV, if_neg (by simp [spanOk]; omega)]))
  · have hb1o := hb1
    try simp only [decide_eq_true_eq, decide_eq_false_iff_not, beq_iff_eq, bne_iff_ne, beq_eq_false_iff_ne, bne_eq_false_iff_eq, Bool.and_eq_true, Bool.or_eq_true, Bool.and_eq_false_iff, Bool.or_eq_false_iff, Bool.not_eq_true', Bool.not_eq_false', ne_eq, Int.not_lt, Int.not_le, Bool.true_and, Bool.false_and, Bool.and_true, Bool.and_false, Bool.or_true, Bool.or_false, Bool.true_or, Bool.false_or, Bool.not_true, Bool.not_false] at hb1
    refine wp_skip ?_
    refine pop_then ?_
    refine St.region_seq [⟨0, 0, 0⟩] [0, 3] [] hS fun _ => ⟨[(0, [], .int .i64 o), (3, [], .int .i64 4096)], [], [], by as_aux_lemma => kernel_rfl, trivial, fun ac wd hS => ?_⟩
    refine wp_seq ?_
    refine St.region_seq [⟨0, 0, 0⟩] [0, 3, 4] [] hS fun _ => ⟨[(0, [], .int .i64 o), (3, [], .int .i64 4096), (4, [], .int .i64 0)], [], [], by as_aux_lemma => kernel_rfl, trivial, fun ac wd hS => ?_⟩
    refine wp_block ?_
    refine St.loop (σ := Int × Int) (fun (x : Int × Int) => match x with | (x3, x4) => [(0, [], .int .i64 o), (3, [], .int .i64 x3), (4, [], .int .i64 x4)]) (fun (x : Int × Int) => match x with | (x3, x4) => []) (fun (x : Int × Int) => match x with | (x3, x4) => []) (fun (x : Int × Int) => match x with | (x3, x4) => (0 ≤ x4 ∧ x4 ≤ o) ∧ (x3 = spanV x4)) (fun (x : Int × Int) => match x with | (x3, x4) => o.toNat - x4.toNat) (4096, 0) ⟨(by first | omega | rfl), (by first | omega | rfl)⟩ hS ?_
    clear hS
    rintro ⟨x3, x4⟩ ⟨i0, i1⟩ ac wd hS
    replace hS : St _ 19 [(0, [], .int .i64 o), (3, [], .int .i64 x3), (4, [], .int .i64 x4)] [] [] ac wd := hS
    replace i0 : 0 ≤ x4 ∧ x4 ≤ o := i0
    replace i1 : x3 = spanV x4 := i1
    have hsb := spanV_bd x4
    have hss := fun h => spanV_succ (o := x4) i0.1 h
    refine wp_seq ?_
    refine St.region_seq [⟨0, 0, 0⟩, ⟨0, 0, 0⟩, ⟨0, 0, 0⟩] [0, 3, 4, 13] [] hS fun _ => ⟨[(0, [], .int .i64 o), (3, [], .int .i64 x3), (4, [], .int .i64 x4), (13, [], .bool (decide ((x4 : Int) < o)))], [], [], by as_aux_lemma => kernel_rfl, trivial, fun ac wd hS => ?_⟩
    refine St.cond (b := (decide ((x4 : Int) < o))) hS (by as_aux_lemma => kernel_rfl) (fun hb2 => ?_) (fun hb2 => ?_)
    · have hb2o := hb2
      try simp only [decide_eq_true_eq, decide_eq_false_iff_not, beq_iff_eq, bne_iff_ne, beq_eq_false_iff_ne, bne_eq_false_iff_eq, Bool.and_eq_true, Bool.or_eq_true, Bool.and_eq_false_iff, Bool.or_eq_false_iff, Bool.not_eq_true', Bool.not_eq_false', ne_eq, Int.not_lt, Int.not_le, Bool.true_and, Bool.false_and, Bool.and_true, Bool.and_false, Bool.or_true, Bool.or_false, Bool.true_or, Bool.false_or, Bool.not_true, Bool.not_false] at hb2
      refine wp_skip ?_
      refine pop_then ?_
      refine wp_seq ?_
      refine wp_block ?_
      have ew3 : (IntKind.wrap .i64 (2 * x3)) = (2 * x3) := i64_in (x := (2 * x3)) (by omega)
      refine St.region [⟨0, 0, 0⟩, ⟨0, 0, 0⟩, ⟨0, 0, 0⟩] [0, 3, 4] [] hS fun _ => ⟨[(0, [], .int .i64 o), (3, [], .int .i64 (IntKind.wrap .i64 (2 * x3))), (4, [], .int .i64 x4)], [], [], by as_aux_lemma => kernel_rfl, trivial, fun ac wd hS => ?_⟩
      simp only [ew3] at hS
      refine pop_block ?_
      refine pop_then ?_
      have ew4 : (IntKind.wrap .i64 (x4 + 1)) = (x4 + 1) := i64_in (x := (x4 + 1)) (by omega)
      refine St.region [⟨0, 0, 0⟩, ⟨0, 0, 0⟩, ⟨0, 0, 0⟩] [0, 3, 4] [] hS fun _ => ⟨[(0, [], .int .i64 o), (3, [], .int .i64 (2 * x3)), (4, [], .int .i64 (IntKind.wrap .i64 (x4 + 1)))], [], [], by as_aux_lemma => kernel_rfl, trivial, fun ac wd hS => ?_⟩
      simp only [ew4] at hS
      exact pop_then ⟨((2 * x3), (x4 + 1)), ⟨(by first | omega | assumption | (simp; done) | (simp; omega)), (by rw [hss (by omega)]; omega)⟩, (by first | omega | (simp; omega) | (simp only []; omega)), hS⟩
    · have hb2o := hb2
      try simp only [decide_eq_true_eq, decide_eq_false_iff_not, beq_iff_eq, bne_iff_ne, beq_eq_false_iff_ne, bne_eq_false_iff_eq, Bool.and_eq_true, Bool.or_eq_true, Bool.and_eq_false_iff, Bool.or_eq_false_iff, Bool.not_eq_true', Bool.not_eq_false', ne_eq, Int.not_lt, Int.not_le, Bool.true_and, Bool.false_and, Bool.and_true, Bool.and_false, Bool.or_true, Bool.or_false, Bool.true_or, Bool.false_or, Bool.not_true, Bool.not_false] at hb2
      refine wp_exit ?_
      refine pop_then_exit ?_
      refine pop_then_exit ?_
      refine pop_block_hit ?_
      refine pop_then ?_
      refine St.region_seq [⟨0, 0, 0⟩, ⟨0, 0, 0⟩] [2] [] hS fun _ => ⟨[(2, [], .int .i64 x3)], [], [], by as_aux_lemma => kernel_rfl, trivial, fun ac wd hS => ?_⟩
      refine wp_ret ?_
      refine St.ret 0 hS (v := .int .i64 x3) (obs := []) (by as_aux_lemma => kernel_rfl) trivial fun hw => ?_
      refine ⟨retd (vint ?_), hw.fr⟩
      all_goals (first | (rw [i1, show x4 = o by omega]) | (rw [spanV, if_neg (by simp [spanOk]; omega)]))

set_option maxRecDepth 100000 in
set_option maxHeartbeats 4000000 in
theorem ref01_Sum (g : Nat) (o : Nat) (c : Nat) (l : List Int) (w : World) (hh0 : HE.holds w g (.fn o (o + l.length) (ints l o))) (hl : l.length ≤ 100) :
    Calls Try.prog 15 #[.slice (some ⟨g, o, none⟩) l.length c] w fun e w' => e = .returned (.tuple #[.int .i64 ((sumGo 0 l).1), .bool ((sumGo 0 l).2)]) ∧ Fr w w' [] [] := by
  refine enter (args := [.slice (some ⟨g, o, none⟩) l.length c]) (A := []) Try.func15 rfl 24 rfl [(g, .fn o (o + l.length) (ints l o))] (WS.start1 hh0) fun ac hS => ?_
  refine St.region_seq [⟨0, 0, 0⟩, ⟨0, 0, 0⟩] [0] [0] hS fun _ => ⟨[(0, [], .slice (some ⟨g, o, none⟩) l.length c)], [(g, .fn o (o + l.length) (ints l o))], [], by as_aux_lemma => kernel_rfl, trivial, fun ac wd hS => ?_⟩
  refine St.region_seq [⟨0, 0, 0⟩] [0, 4] [0] hS fun _ => ⟨[(0, [], .slice (some ⟨g, o, none⟩) l.length c), (4, [], .int .i64 0)], [(g, .fn o (o + l.length) (ints l o))], [], by as_aux_lemma => kernel_rfl, trivial, fun ac wd hS => ?_⟩
  refine wp_seq ?_
  refine St.region_seq [⟨0, 0, 0⟩, ⟨0, 0, 0⟩, ⟨0, 0, 0⟩] [4, 7, 8, 9] [0] hS fun _ => ⟨[(4, [], .int .i64 0), (7, [], .slice (some ⟨g, o, none⟩) l.length c), (8, [], .int .i64 ((l.length : Nat) : Int)), (9, [], .int .i64 0)], [(g, .fn o (o + l.length) (ints l o))], [], by as_aux_lemma => kernel_rfl, trivial, fun ac wd hS => ?_⟩
  refine wp_block ?_
  refine St.loop (σ := Int × Int) (fun (x : Int × Int) => match x with | (x4, x9) => [(4, [], .int .i64 x4), (7, [], .slice (some ⟨g, o, none⟩) l.length c), (8, [], .int .i64 ((l.length : Nat) : Int)), (9, [], .int .i64 x9)]) (fun (x : Int × Int) => match x with | (x4, x9) => [(g, .fn o (o + l.length) (ints l o))]) (fun (x : Int × Int) => match x with | (x4, x9) => []) (fun (x : Int × Int) => match x with | (x4, x9) => (0 ≤ x9) ∧ (x9 ≤ (l.length : Int)) ∧ (0 ≤ x4 ∧ x4 ≤ 4294967296) ∧ (sumGo 0 l = sumGo x4 (l.drop (Int.toNat x9)))) (fun (x : Int × Int) => match x with | (x4, x9) => (l.length : Int).toNat - Int.toNat x9) (0, 0) ⟨(by first | omega | rfl | simp), (by first | omega | rfl | simp), (by first | omega | rfl | simp), (by first | omega | rfl | simp)⟩ hS ?_
  clear hS
  rintro ⟨x4, x9⟩ ⟨i0, i1, i2, i3⟩ ac wd hS
  replace hS : St _ 24 [(4, [], .int .i64 x4), (7, [], .slice (some ⟨g, o, none⟩) l.length c), (8, [], .int .i64 ((l.length : Nat) : Int)), (9, [], .int .i64 x9)] [(g, .fn o (o + l.length) (ints l o))] [] ac wd := hS
  replace i0 : 0 ≤ x9 := i0
  replace i1 : x9 ≤ (l.length : Int) := i1
  replace i2 : 0 ≤ x4 ∧ x4 ≤ 4294967296 := i2
  replace i3 : sumGo 0 l = sumGo x4 (l.drop (Int.toNat x9)) := i3
  have hat : x9 < (l.length : Int) → sumGo x4 (l.drop (Int.toNat x9)) = if isSize (l.getD (Int.toNat x9) 0) && isSize (x4 + l.getD (Int.toNat x9) 0) then sumGo (x4 + l.getD (Int.toNat x9) 0) (l.drop (Int.toNat x9 + 1)) else (0, false) := fun h => sumGo_at (by omega)
  refine St.region_seq [⟨0, 0, 0⟩] [4, 7, 8, 9, 10] [0] hS fun _ => ⟨[(4, [], .int .i64 x4), (7, [], .slice (some ⟨g, o, none⟩) l.length c), (8, [], .int .i64 ((l.length : Nat) : Int)), (9, [], .int .i64 x9), (10, [], .bool (decide ((x9 : Int) < ((l.length : Nat) : Int))))], [(g, .fn o (o + l.length) (ints l o))], [], by as_aux_lemma => kernel_rfl, trivial, fun ac wd hS => ?_⟩
  refine wp_seq ?_
  refine St.cond (b := (decide ((x9 : Int) < ((l.length : Nat) : Int)))) hS (by as_aux_lemma => kernel_rfl) (fun hb1 => ?_) (fun hb1 => ?_)
  · have hb1o := hb1
    try simp only [decide_eq_true_eq, decide_eq_false_iff_not, beq_iff_eq, bne_iff_ne, beq_eq_false_iff_ne, bne_eq_false_iff_eq, Bool.and_eq_true, Bool.or_eq_true, Bool.and_eq_false_iff, Bool.or_eq_false_iff, Bool.not_eq_true', Bool.not_eq_false', ne_eq, Int.not_lt, Int.not_le, Bool.true_and, Bool.false_and, Bool.and_true, Bool.and_false, Bool.or_true, Bool.or_false, Bool.true_or, Bool.false_or, Bool.not_true, Bool.not_false, isSize_iff, whole_iff] at hb1
    refine wp_skip ?_
    refine pop_then ?_
    refine wp_seq ?_
    refine wp_block ?_
    have ew2 : (l.getD (o + Int.toNat x9 * 1 - o) 0) = (l.getD (Int.toNat x9) 0) := by rw [Nat.mul_one, Nat.add_sub_cancel_left]
    refine St.region_seq [⟨0, 2, 0⟩, ⟨0, 0, 0⟩, ⟨0, 0, 0⟩] [4, 6, 7, 8, 9] [0] hS fun _ => ⟨[(4, [], .int .i64 x4), (6, [], .int .i64 (l.getD (o + Int.toNat x9 * 1 - o) 0)), (7, [], .slice (some ⟨g, o, none⟩) l.length c), (8, [], .int .i64 ((l.length : Nat) : Int)), (9, [], .int .i64 x9)], [(g, .fn o (o + l.length) (ints l o))], [g = g, o ≤ o + Int.toNat x9 * 1 ∧ o + Int.toNat x9 * 1 < (o + l.length), 0 ≤ x9 ∧ x9 < ((l.length : Nat) : Int)], by as_aux_lemma => kernel_rfl, ⟨rfl, (by (try simp only [ew2]); first | omega | (simp; omega) | (simp_all; done) | (simp_all; omega)), (by (try simp only [ew2]); first | omega | (simp; omega) | (simp_all; done) | (simp_all; omega)), trivial⟩, fun ac wd hS => ?_⟩
    simp only [ew2] at hS
    refine wp_seq ?_
    refine wp_region_seq ?_
    refine St.ops 1 [⟨0, 0, 0⟩] [4, 6, 7, 8, 9, 13] [0] hS fun _ => ⟨[(4, [], .int .i64 x4), (6, [], .int .i64 (l.getD (Int.toNat x9) 0)), (7, [], .slice (some ⟨g, o, none⟩) l.length c), (8, [], .int .i64 ((l.length : Nat) : Int)), (9, [], .int .i64 x9), (13, [], .int .i64 (l.getD (Int.toNat x9) 0))], [(g, .fn o (o + l.length) (ints l o))], [], by as_aux_lemma => kernel_rfl, trivial, fun ac wd hS => ?_⟩
    refine St.call 0 0 hS (f := 21) (args := #[.int .i64 (l.getD (Int.toNat x9) 0)]) (obs := []) (by as_aux_lemma => kernel_rfl) trivial (by as_aux_lemma => kernel_rfl) (ref01_Is (l.getD (Int.toNat x9) 0) _ ) ?_
    rintro _ wd ⟨rfl, hF⟩
    refine ⟨.bool (isSize (l.getD (Int.toNat x9) 0)), rfl, ?_⟩
    replace hS := St.put (d := 14) (v := .bool (isSize (l.getD (Int.toNat x9) 0))) (hS.to (hS.mem.keep0 hF)) (by decide)
    clear hF
    refine St.ops 1 [⟨0, 0, 0⟩] [4, 6, 7, 8, 9, 15] [0] hS fun _ => ⟨[(4, [], .int .i64 x4), (6, [], .int .i64 (l.getD (Int.toNat x9) 0)), (7, [], .slice (some ⟨g, o, none⟩) l.length c), (8, [], .int .i64 ((l.length : Nat) : Int)), (9, [], .int .i64 x9), (15, [], .bool (!(isSize (l.getD (Int.toNat x9) 0))))], [(g, .fn o (o + l.length) (ints l o))], [], by as_aux_lemma => kernel_rfl, trivial, fun ac wd hS => ?_⟩
    refine list_nil_seq ?_
    refine St.cond (b := (!(isSize (l.getD (Int.toNat x9) 0)))) hS (by as_aux_lemma => kernel_rfl) (fun hb3 => ?_) (fun hb3 => ?_)
    · have hb3o := hb3
      try simp only [decide_eq_true_eq, decide_eq_false_iff_not, beq_iff_eq, bne_iff_ne, beq_eq_false_iff_ne, bne_eq_false_iff_eq, Bool.and_eq_true, Bool.or_eq_true, Bool.and_eq_false_iff, Bool.or_eq_false_iff, Bool.not_eq_true', Bool.not_eq_false', ne_eq, Int.not_lt, Int.not_le, Bool.true_and, Bool.false_and, Bool.and_true, Bool.and_false, Bool.or_true, Bool.or_false, Bool.true_or, Bool.false_or, Bool.not_true, Bool.not_false, isSize_iff, whole_iff] at hb3
      refine St.region_seq [⟨0, 0, 0⟩, ⟨0, 0, 0⟩] [2, 3] [] hS fun _ => ⟨[(2, [], .int .i64 0), (3, [], .bool false)], [], [], by as_aux_lemma => kernel_rfl, trivial, fun ac wd hS => ?_⟩
      refine wp_ret ?_
      refine pop_then_ret ?_
      refine pop_block_ret ?_
      refine pop_then_ret ?_
      refine pop_then_ret ?_
      refine pop_block_ret ?_
      refine pop_then_ret ?_
      refine St.ret 0 hS (v := .tuple #[.int .i64 0, .bool false]) (obs := []) (by as_aux_lemma => kernel_rfl) trivial fun hw => ?_
      refine ⟨retd (tuple2 (vint ?_) (vbool ?_)), hw.fr⟩
      all_goals (first | (rw [i3, hat (by omega)]; simp_all; done) | (rw [i3, show Int.toNat x9 = l.length by omega]; simp [sumGo]))
    · have hb3o := hb3
      try simp only [decide_eq_true_eq, decide_eq_false_iff_not, beq_iff_eq, bne_iff_ne, beq_eq_false_iff_ne, bne_eq_false_iff_eq, Bool.and_eq_true, Bool.or_eq_true, Bool.and_eq_false_iff, Bool.or_eq_false_iff, Bool.not_eq_true', Bool.not_eq_false', ne_eq, Int.not_lt, Int.not_le, Bool.true_and, Bool.false_and, Bool.and_true, Bool.and_false, Bool.or_true, Bool.or_false, Bool.true_or, Bool.false_or, Bool.not_true, Bool.not_false, isSize_iff, whole_iff] at hb3
      refine wp_skip ?_
      refine pop_then ?_
      have ew4 : (IntKind.wrap .i64 (x4 + (l.getD (Int.toNat x9) 0))) = (x4 + (l.getD (Int.toNat x9) 0)) := i64_in (x := (x4 + (l.getD (Int.toNat x9) 0))) (by omega)
      refine St.region_seq [⟨0, 0, 0⟩, ⟨0, 0, 0⟩, ⟨0, 0, 0⟩, ⟨0, 0, 0⟩] [4, 7, 8, 9] [0] hS fun _ => ⟨[(4, [], .int .i64 (IntKind.wrap .i64 (x4 + (l.getD (Int.toNat x9) 0)))), (7, [], .slice (some ⟨g, o, none⟩) l.length c), (8, [], .int .i64 ((l.length : Nat) : Int)), (9, [], .int .i64 x9)], [(g, .fn o (o + l.length) (ints l o))], [], by as_aux_lemma => kernel_rfl, trivial, fun ac wd hS => ?_⟩
      simp only [ew4] at hS
      refine wp_region_seq ?_
      refine St.ops 1 [⟨0, 0, 0⟩] [4, 7, 8, 9, 19] [0] hS fun _ => ⟨[(4, [], .int .i64 (x4 + (l.getD (Int.toNat x9) 0))), (7, [], .slice (some ⟨g, o, none⟩) l.length c), (8, [], .int .i64 ((l.length : Nat) : Int)), (9, [], .int .i64 x9), (19, [], .int .i64 (x4 + (l.getD (Int.toNat x9) 0)))], [(g, .fn o (o + l.length) (ints l o))], [], by as_aux_lemma => kernel_rfl, trivial, fun ac wd hS => ?_⟩
      refine St.call 0 0 hS (f := 21) (args := #[.int .i64 (x4 + (l.getD (Int.toNat x9) 0))]) (obs := []) (by as_aux_lemma => kernel_rfl) trivial (by as_aux_lemma => kernel_rfl) (ref01_Is (x4 + (l.getD (Int.toNat x9) 0)) _ ) ?_
      rintro _ wd ⟨rfl, hF⟩
      refine ⟨.bool (isSize (x4 + (l.getD (Int.toNat x9) 0))), rfl, ?_⟩
      replace hS := St.put (d := 20) (v := .bool (isSize (x4 + (l.getD (Int.toNat x9) 0)))) (hS.to (hS.mem.keep0 hF)) (by decide)
      clear hF
      refine St.ops 1 [⟨0, 0, 0⟩] [4, 7, 8, 9, 21] [0] hS fun _ => ⟨[(4, [], .int .i64 (x4 + (l.getD (Int.toNat x9) 0))), (7, [], .slice (some ⟨g, o, none⟩) l.length c), (8, [], .int .i64 ((l.length : Nat) : Int)), (9, [], .int .i64 x9), (21, [], .bool (!(isSize (x4 + (l.getD (Int.toNat x9) 0)))))], [(g, .fn o (o + l.length) (ints l o))], [], by as_aux_lemma => kernel_rfl, trivial, fun ac wd hS => ?_⟩
      refine list_nil_seq ?_
      refine St.cond (b := (!(isSize (x4 + (l.getD (Int.toNat x9) 0))))) hS (by as_aux_lemma => kernel_rfl) (fun hb5 => ?_) (fun hb5 => ?_)
      · have hb5o := hb5
        try simp only [decide_eq_true_eq, decide_eq_false_iff_not, beq_iff_eq, bne_iff_ne, beq_eq_false_iff_ne, bne_eq_false_iff_eq, Bool.and_eq_true, Bool.or_eq_true, Bool.and_eq_false_iff, Bool.or_eq_false_iff, Bool.not_eq_true', Bool.not_eq_false', ne_eq, Int.not_lt, Int.not_le, Bool.true_and, Bool.false_and, Bool.and_true, Bool.and_false, Bool.or_true, Bool.or_false, Bool.true_or, Bool.false_or, Bool.not_true, Bool.not_false, isSize_iff, whole_iff] at hb5
        refine St.region_seq [⟨0, 0, 0⟩, ⟨0, 0, 0⟩] [2, 3] [] hS fun _ => ⟨[(2, [], .int .i64 0), (3, [], .bool false)], [], [], by as_aux_lemma => kernel_rfl, trivial, fun ac wd hS => ?_⟩
        refine wp_ret ?_
        refine pop_block_ret ?_
        refine pop_then_ret ?_
        refine pop_then_ret ?_
        refine pop_block_ret ?_
        refine pop_then_ret ?_
        refine St.ret 0 hS (v := .tuple #[.int .i64 0, .bool false]) (obs := []) (by as_aux_lemma => kernel_rfl) trivial fun hw => ?_
        refine ⟨retd (tuple2 (vint ?_) (vbool ?_)), hw.fr⟩
        all_goals (first | (rw [i3, hat (by omega)]; simp_all; done) | (rw [i3, show Int.toNat x9 = l.length by omega]; simp [sumGo]))
      · have hb5o := hb5
        try simp only [decide_eq_true_eq, decide_eq_false_iff_not, beq_iff_eq, bne_iff_ne, beq_eq_false_iff_ne, bne_eq_false_iff_eq, Bool.and_eq_true, Bool.or_eq_true, Bool.and_eq_false_iff, Bool.or_eq_false_iff, Bool.not_eq_true', Bool.not_eq_false', ne_eq, Int.not_lt, Int.not_le, Bool.true_and, Bool.false_and, Bool.and_true, Bool.and_false, Bool.or_true, Bool.or_false, Bool.true_or, Bool.false_or, Bool.not_true, Bool.not_false, isSize_iff, whole_iff] at hb5
        refine wp_skip ?_
        refine pop_block ?_
        refine pop_then ?_
        have ew6 : (IntKind.wrap .i64 (x9 + 1)) = (x9 + 1) := i64_in (x := (x9 + 1)) (by omega)
        refine St.region [⟨0, 0, 0⟩, ⟨0, 0, 0⟩] [4, 7, 8, 9] [0] hS fun _ => ⟨[(4, [], .int .i64 (x4 + (l.getD (Int.toNat x9) 0))), (7, [], .slice (some ⟨g, o, none⟩) l.length c), (8, [], .int .i64 ((l.length : Nat) : Int)), (9, [], .int .i64 (IntKind.wrap .i64 (x9 + 1)))], [(g, .fn o (o + l.length) (ints l o))], [], by as_aux_lemma => kernel_rfl, trivial, fun ac wd hS => ?_⟩
        simp only [ew6] at hS
        exact pop_then ⟨((x4 + (l.getD (Int.toNat x9) 0)), (x9 + 1)), ⟨(by first | omega | assumption | (simp; done) | (simp; omega)), (by first | omega | assumption | (simp; done) | (simp; omega)), (by first | omega | assumption | (simp; done) | (simp; omega)), (by rw [i3, hat (by omega)]; rw [show Int.toNat (x9 + 1) = Int.toNat x9 + 1 by omega]; simp_all)⟩, (by first | omega | (simp; omega) | (simp only []; omega)), hS⟩
  · have hb1o := hb1
    try simp only [decide_eq_true_eq, decide_eq_false_iff_not, beq_iff_eq, bne_iff_ne, beq_eq_false_iff_ne, bne_eq_false_iff_eq, Bool.and_eq_true, Bool.or_eq_true, Bool.and_eq_false_iff, Bool.or_eq_false_iff, Bool.not_eq_true', Bool.not_eq_false', ne_eq, Int.not_lt, Int.not_le, Bool.true_and, Bool.false_and, Bool.and_true, Bool.and_false, Bool.or_true, Bool.or_false, Bool.true_or, Bool.false_or, Bool.not_true, Bool.not_false, isSize_iff, whole_iff] at hb1
    refine wp_exit ?_
    refine pop_then_exit ?_
    refine pop_then_exit ?_
    refine pop_block_hit ?_
    refine pop_then ?_
    refine St.region_seq [⟨0, 0, 0⟩, ⟨0, 0, 0⟩, ⟨0, 0, 0⟩] [2, 3] [] hS fun _ => ⟨[(2, [], .int .i64 x4), (3, [], .bool true)], [], [], by as_aux_lemma => kernel_rfl, trivial, fun ac wd hS => ?_⟩
    refine wp_ret ?_
    refine St.ret 0 hS (v := .tuple #[.int .i64 x4, .bool true]) (obs := []) (by as_aux_lemma => kernel_rfl) trivial fun hw => ?_
    refine ⟨retd (tuple2 (vint ?_) (vbool ?_)), hw.fr⟩
    all_goals (first | (rw [i3, hat (by omega)]; simp_all; done) | (rw [i3, show Int.toNat x9 = l.length by omega]; simp [sumGo]))

set_option maxRecDepth 100000 in
set_option maxHeartbeats 4000000 in
theorem ref01_Sum_empty (ao : Option Addr) (c : Nat) (w : World) :
    Calls Try.prog 15 #[.slice ao 0 c] w fun e w' => e = .returned (.tuple #[.int .i64 0, .bool true]) ∧ Fr w w' [] [] := by
  refine enter (args := [.slice ao 0 c]) (A := []) Try.func15 rfl 24 rfl [] (WS.start (AllAr.nil w)) fun ac hS => ?_
  refine St.region_seq [⟨0, 0, 0⟩, ⟨0, 0, 0⟩] [0] [] hS fun _ => ⟨[(0, [], .slice ao 0 c)], [], [], by as_aux_lemma => kernel_rfl, trivial, fun ac wd hS => ?_⟩
  refine St.region_seq [⟨0, 0, 0⟩] [0, 4] [] hS fun _ => ⟨[(0, [], .slice ao 0 c), (4, [], .int .i64 0)], [], [], by as_aux_lemma => kernel_rfl, trivial, fun ac wd hS => ?_⟩
  refine wp_seq ?_
  refine St.region_seq [⟨0, 0, 0⟩, ⟨0, 0, 0⟩, ⟨0, 0, 0⟩] [4, 7, 8, 9] [] hS fun _ => ⟨[(4, [], .int .i64 0), (7, [], .slice ao 0 c), (8, [], .int .i64 0), (9, [], .int .i64 0)], [], [], by as_aux_lemma => kernel_rfl, trivial, fun ac wd hS => ?_⟩
  refine wp_block ?_
  refine St.loop (σ := Int × Int) (fun (x : Int × Int) => match x with | (x4, x9) => [(4, [], .int .i64 x4), (7, [], .slice ao 0 c), (8, [], .int .i64 0), (9, [], .int .i64 x9)]) (fun (x : Int × Int) => match x with | (x4, x9) => []) (fun (x : Int × Int) => match x with | (x4, x9) => []) (fun (x : Int × Int) => match x with | (x4, x9) => (x9 = 0) ∧ (x4 = 0)) (fun (x : Int × Int) => match x with | (x4, x9) => 0) (0, 0) ⟨(by rfl), (by rfl)⟩ hS ?_
  clear hS
  rintro ⟨x4, x9⟩ ⟨i0, i4⟩ ac wd hS
  replace hS : St _ 24 [(4, [], .int .i64 x4), (7, [], .slice ao 0 c), (8, [], .int .i64 0), (9, [], .int .i64 x9)] [] [] ac wd := hS
  replace i0 : x9 = 0 := i0
  replace i4 : x4 = 0 := i4
  refine St.region_seq [⟨0, 0, 0⟩] [4, 7, 8, 9, 10] [] hS fun _ => ⟨[(4, [], .int .i64 x4), (7, [], .slice ao 0 c), (8, [], .int .i64 0), (9, [], .int .i64 x9), (10, [], .bool (decide ((x9 : Int) < 0)))], [], [], by as_aux_lemma => kernel_rfl, trivial, fun ac wd hS => ?_⟩
  refine wp_seq ?_
  refine St.cond (b := (decide ((x9 : Int) < 0))) hS (by as_aux_lemma => kernel_rfl) (fun h => absurd h (by simp; omega)) (fun _ => ?_)
  refine wp_exit ?_
  refine pop_then_exit ?_
  refine pop_then_exit ?_
  refine pop_block_hit ?_
  refine pop_then ?_
  refine St.region_seq [⟨0, 0, 0⟩, ⟨0, 0, 0⟩, ⟨0, 0, 0⟩] [2, 3] [] hS fun _ => ⟨[(2, [], .int .i64 x4), (3, [], .bool true)], [], [], by as_aux_lemma => kernel_rfl, trivial, fun ac wd hS => ?_⟩
  refine wp_ret ?_
  refine St.ret 0 hS (v := .tuple #[.int .i64 x4, .bool true]) (obs := []) (by as_aux_lemma => kernel_rfl) trivial fun hw => ?_
  refine ⟨retd (tuple2 (vint ?_) rfl), hw.fr⟩
  all_goals (omega)

set_option maxRecDepth 100000 in
set_option maxHeartbeats 4000000 in
theorem law01_awake (w : World) :
    Calls Try.prog 7 #[] w fun e w' => e = .returned (.bool true) ∧ Fr w w' [] [] := by
  refine enter (args := []) (A := []) Try.func7 rfl 52 rfl [] (WS.start (AllAr.nil w)) fun ac hS => ?_
  refine St.region_seq [⟨0, 0, 0⟩] [] [] hS fun _ => ⟨[], [], [], by as_aux_lemma => kernel_rfl, trivial, fun ac wd hS => ?_⟩
  refine wp_region_seq ?_
  refine St.call 0 0 hS (f := 8) (args := #[.int .i64 17, .int .i64 16]) (obs := []) (by as_aux_lemma => kernel_rfl) trivial (by as_aux_lemma => kernel_rfl) (size_Up 17 16 _ ) ?_
  rintro _ wd ⟨rfl, hF⟩
  refine ⟨.tuple #[.int .i64 (upV 17 16), .bool (upOk 17 16)], rfl, ?_⟩
  replace hS := St.put (d := 10) (v := .tuple #[.int .i64 (upV 17 16), .bool (upOk 17 16)]) (hS.to (hS.mem.keep0 hF)) (by decide)
  clear hF
  refine St.ops 5 [⟨0, 0, 0⟩, ⟨0, 0, 0⟩, ⟨0, 0, 0⟩, ⟨0, 0, 0⟩, ⟨0, 0, 0⟩] [1, 2] [] hS fun _ => ⟨[(1, [], .int .i64 (upV 17 16)), (2, [], .bool (upOk 17 16))], [], [], by as_aux_lemma => kernel_rfl, trivial, fun ac wd hS => ?_⟩
  refine list_nil_seq ?_
  refine wp_region_seq ?_
  refine St.call 0 0 hS (f := 10) (args := #[.int .i64 4097]) (obs := []) (by as_aux_lemma => kernel_rfl) trivial (by as_aux_lemma => kernel_rfl) (size_Pages 4097 _ ) ?_
  rintro _ wd ⟨rfl, hF⟩
  refine ⟨.tuple #[.int .i64 (pagesV 4097), .bool (isSize 4097)], rfl, ?_⟩
  replace hS := St.put (d := 14) (v := .tuple #[.int .i64 (pagesV 4097), .bool (isSize 4097)]) (hS.to (hS.mem.keep0 hF)) (by decide)
  clear hF
  refine St.ops 5 [⟨0, 0, 0⟩, ⟨0, 0, 0⟩, ⟨0, 0, 0⟩, ⟨0, 0, 0⟩, ⟨0, 0, 0⟩] [1, 2, 3, 4] [] hS fun _ => ⟨[(1, [], .int .i64 (upV 17 16)), (2, [], .bool (upOk 17 16)), (3, [], .int .i64 (pagesV 4097)), (4, [], .bool (isSize 4097))], [], [], by as_aux_lemma => kernel_rfl, trivial, fun ac wd hS => ?_⟩
  refine list_nil_seq ?_
  refine wp_region_seq ?_
  refine St.call 0 0 hS (f := 16) (args := #[.int .i64 5]) (obs := []) (by as_aux_lemma => kernel_rfl) trivial (by as_aux_lemma => kernel_rfl) (size_Order 5 _ ) ?_
  rintro _ wd ⟨rfl, hF⟩
  refine ⟨.tuple #[.int .i64 (ordV 5), .bool (ordOk 5)], rfl, ?_⟩
  replace hS := St.put (d := 18) (v := .tuple #[.int .i64 (ordV 5), .bool (ordOk 5)]) (hS.to (hS.mem.keep0 hF)) (by decide)
  clear hF
  refine St.ops 5 [⟨0, 0, 0⟩, ⟨0, 0, 0⟩, ⟨0, 0, 0⟩, ⟨0, 0, 0⟩, ⟨0, 0, 0⟩] [1, 2, 3, 4, 5, 6] [] hS fun _ => ⟨[(1, [], .int .i64 (upV 17 16)), (2, [], .bool (upOk 17 16)), (3, [], .int .i64 (pagesV 4097)), (4, [], .bool (isSize 4097)), (5, [], .int .i64 (ordV 5)), (6, [], .bool (ordOk 5))], [], [], by as_aux_lemma => kernel_rfl, trivial, fun ac wd hS => ?_⟩
  refine list_nil_seq ?_
  refine wp_region_seq ?_
  refine St.ops 1 [⟨0, 0, 0⟩] [1, 2, 3, 4, 5, 6, 22] [0] hS fun ν5 => ⟨[(1, [], .int .i64 (upV 17 16)), (2, [], .bool (upOk 17 16)), (3, [], .int .i64 (pagesV 4097)), (4, [], .bool (isSize 4097)), (5, [], .int .i64 (ordV 5)), (6, [], .bool (ordOk 5)), (22, [], .slice (some ⟨(ν5 0), 0, none⟩) 3 3)], [((ν5 0), .cells [.int .i64 1, .int .i64 2, .int .i64 3] 3)], [], by as_aux_lemma => kernel_rfl, trivial, fun ac wd hS => ?_⟩
  refine St.call 0 0 hS (f := 14) (args := #[.slice (some ⟨(ν5 0), 0, none⟩) 3 3]) (obs := []) (by as_aux_lemma => kernel_rfl) trivial (by as_aux_lemma => kernel_rfl) (size_Sum (ν5 0) 0 3 ([1, 2, 3]) _ (HE.of_cells (hS.mem.heap _ (List.mem_of_getElem? (i := 0) rfl)) (fun o ho => by have ho : o < 3 := ho; rcases (by omega : o = 0 ∨ o = 1 ∨ o = 2) with rfl | rfl | rfl <;> rfl)) (by decide)) ?_
  rintro _ wd ⟨rfl, hF⟩
  refine ⟨.tuple #[.int .i64 ((sumGo 0 ([1, 2, 3])).1), .bool ((sumGo 0 ([1, 2, 3])).2)], rfl, ?_⟩
  replace hS := St.put (d := 23) (v := .tuple #[.int .i64 ((sumGo 0 ([1, 2, 3])).1), .bool ((sumGo 0 ([1, 2, 3])).2)]) (hS.to (hS.mem.keep0 hF)) (by decide)
  clear hF
  refine St.ops 5 [⟨0, 0, 0⟩, ⟨0, 0, 0⟩, ⟨0, 0, 0⟩, ⟨0, 0, 0⟩, ⟨0, 0, 0⟩] [1, 2, 3, 4, 5, 6, 7, 8] [] hS fun _ => ⟨[(1, [], .int .i64 (upV 17 16)), (2, [], .bool (upOk 17 16)), (3, [], .int .i64 (pagesV 4097)), (4, [], .bool (isSize 4097)), (5, [], .int .i64 (ordV 5)), (6, [], .bool (ordOk 5)), (7, [], .int .i64 ((sumGo 0 ([1, 2, 3])).1)), (8, [], .bool ((sumGo 0 ([1, 2, 3])).2))], [], [], by as_aux_lemma => kernel_rfl, trivial, fun ac wd hS => ?_⟩
  refine list_nil_seq ?_
  refine St.region_seq [⟨0, 0, 0⟩, ⟨0, 0, 0⟩, ⟨3, 0, 0⟩, ⟨0, 8, 0⟩, ⟨0, 0, 0⟩, ⟨3, 0, 0⟩, ⟨0, 8, 0⟩, ⟨0, 0, 0⟩, ⟨3, 0, 0⟩, ⟨0, 8, 0⟩, ⟨0, 0, 0⟩, ⟨3, 0, 0⟩, ⟨3, 0, 0⟩, ⟨0, 8, 0⟩, ⟨0, 0, 0⟩, ⟨3, 0, 0⟩, ⟨3, 0, 0⟩, ⟨0, 8, 0⟩, ⟨0, 0, 0⟩, ⟨3, 0, 0⟩, ⟨3, 0, 0⟩, ⟨0, 8, 0⟩, ⟨0, 0, 0⟩, ⟨3, 0, 0⟩, ⟨3, 0, 0⟩, ⟨0, 8, 0⟩, ⟨0, 0, 0⟩] [0] [] hS fun _ => ⟨[(0, [], .bool ((((((((upOk 17 16) && (isSize 4097)) && (ordOk 5)) && ((sumGo 0 ([1, 2, 3])).2)) && (((upV 17 16) : Int) == 32)) && (((pagesV 4097) : Int) == 2)) && (((ordV 5) : Int) == 3)) && (((sumGo 0 ([1, 2, 3])).1 : Int) == 6)))], [], [], by as_aux_lemma => kernel_rfl, trivial, fun ac wd hS => ?_⟩
  refine wp_ret ?_
  refine St.ret 0 hS (v := .bool ((((((((upOk 17 16) && (isSize 4097)) && (ordOk 5)) && ((sumGo 0 ([1, 2, 3])).2)) && (((upV 17 16) : Int) == 32)) && (((pagesV 4097) : Int) == 2)) && (((ordV 5) : Int) == 3)) && (((sumGo 0 ([1, 2, 3])).1 : Int) == 6))) (obs := []) (by as_aux_lemma => kernel_rfl) trivial fun hw => ?_
  refine ⟨retd (vbool ?_), hw.fr⟩
  all_goals (decide)

set_option maxRecDepth 100000 in
set_option maxHeartbeats 4000000 in
theorem law_SizeUps (n : Int) (a : Int) (w : World) :
    Calls Try.prog 3 #[.int .i64 n, .int .i64 a] w fun e w' => e = .returned (.bool true) ∧ Fr w w' [] [] := by
  refine enter (args := [.int .i64 n, .int .i64 a]) (A := []) Try.func3 rfl 62 rfl [] (WS.start (AllAr.nil w)) fun ac hS => ?_
  refine St.region_seq [⟨0, 0, 0⟩] [0, 1] [] hS fun _ => ⟨[(0, [], .int .i64 n), (1, [], .int .i64 a)], [], [], by as_aux_lemma => kernel_rfl, trivial, fun ac wd hS => ?_⟩
  refine wp_seq ?_
  refine wp_region_seq ?_
  refine St.call 0 0 hS (f := 7) (args := #[]) (obs := []) (by as_aux_lemma => kernel_rfl) trivial (by as_aux_lemma => kernel_rfl) (law01_awake  _ ) ?_
  rintro _ wd ⟨rfl, hF⟩
  refine ⟨.bool true, rfl, ?_⟩
  replace hS := St.put (d := 13) (v := .bool true) (hS.to (hS.mem.keep0 hF)) (by decide)
  clear hF
  refine St.ops 1 [⟨0, 0, 0⟩] [0, 1, 14] [] hS fun _ => ⟨[(0, [], .int .i64 n), (1, [], .int .i64 a), (14, [], .bool false)], [], [], by as_aux_lemma => kernel_rfl, trivial, fun ac wd hS => ?_⟩
  refine list_nil_seq ?_
  refine St.cond (b := false) hS (by as_aux_lemma => kernel_rfl) (fun h => nomatch h) (fun _ => ?_)
  refine wp_skip ?_
  refine pop_then ?_
  refine wp_region_seq ?_
  refine St.ops 2 [⟨0, 0, 0⟩, ⟨0, 0, 0⟩] [0, 1, 16, 17] [] hS fun _ => ⟨[(0, [], .int .i64 n), (1, [], .int .i64 a), (16, [], .int .i64 n), (17, [], .int .i64 a)], [], [], by as_aux_lemma => kernel_rfl, trivial, fun ac wd hS => ?_⟩
  refine St.call 0 0 hS (f := 8) (args := #[.int .i64 n, .int .i64 a]) (obs := []) (by as_aux_lemma => kernel_rfl) trivial (by as_aux_lemma => kernel_rfl) (size_Up n a _ ) ?_
  rintro _ wd ⟨rfl, hF⟩
  refine ⟨.tuple #[.int .i64 (upV n a), .bool (upOk n a)], rfl, ?_⟩
  replace hS := St.put (d := 18) (v := .tuple #[.int .i64 (upV n a), .bool (upOk n a)]) (hS.to (hS.mem.keep0 hF)) (by decide)
  clear hF
  refine St.ops 5 [⟨0, 0, 0⟩, ⟨0, 0, 0⟩, ⟨0, 0, 0⟩, ⟨0, 0, 0⟩, ⟨0, 0, 0⟩] [0, 1, 5, 6] [] hS fun _ => ⟨[(0, [], .int .i64 n), (1, [], .int .i64 a), (5, [], .int .i64 (upV n a)), (6, [], .bool (upOk n a))], [], [], by as_aux_lemma => kernel_rfl, trivial, fun ac wd hS => ?_⟩
  refine list_nil_seq ?_
  refine wp_region_seq ?_
  refine St.ops 2 [⟨0, 0, 0⟩, ⟨0, 0, 0⟩] [0, 1, 5, 6, 22, 23] [] hS fun _ => ⟨[(0, [], .int .i64 n), (1, [], .int .i64 a), (5, [], .int .i64 (upV n a)), (6, [], .bool (upOk n a)), (22, [], .int .i64 n), (23, [], .int .i64 a)], [], [], by as_aux_lemma => kernel_rfl, trivial, fun ac wd hS => ?_⟩
  refine St.call 0 0 hS (f := 9) (args := #[.int .i64 n, .int .i64 a]) (obs := []) (by as_aux_lemma => kernel_rfl) trivial (by as_aux_lemma => kernel_rfl) (ref01_Up n a _ ) ?_
  rintro _ wd ⟨rfl, hF⟩
  refine ⟨.tuple #[.int .i64 (upV n a), .bool (upOk n a)], rfl, ?_⟩
  replace hS := St.put (d := 24) (v := .tuple #[.int .i64 (upV n a), .bool (upOk n a)]) (hS.to (hS.mem.keep0 hF)) (by decide)
  clear hF
  refine St.ops 5 [⟨0, 0, 0⟩, ⟨0, 0, 0⟩, ⟨0, 0, 0⟩, ⟨0, 0, 0⟩, ⟨0, 0, 0⟩] [0, 1, 5, 6, 7, 8] [] hS fun _ => ⟨[(0, [], .int .i64 n), (1, [], .int .i64 a), (5, [], .int .i64 (upV n a)), (6, [], .bool (upOk n a)), (7, [], .int .i64 (upV n a)), (8, [], .bool (upOk n a))], [], [], by as_aux_lemma => kernel_rfl, trivial, fun ac wd hS => ?_⟩
  refine list_nil_seq ?_
  refine wp_region_seq ?_
  refine St.ops 1 [⟨0, 0, 0⟩] [0, 1, 5, 6, 7, 8, 28] [] hS fun _ => ⟨[(0, [], .int .i64 n), (1, [], .int .i64 a), (5, [], .int .i64 (upV n a)), (6, [], .bool (upOk n a)), (7, [], .int .i64 (upV n a)), (8, [], .bool (upOk n a)), (28, [], .int .i64 n)], [], [], by as_aux_lemma => kernel_rfl, trivial, fun ac wd hS => ?_⟩
  refine St.call 0 0 hS (f := 10) (args := #[.int .i64 n]) (obs := []) (by as_aux_lemma => kernel_rfl) trivial (by as_aux_lemma => kernel_rfl) (size_Pages n _ ) ?_
  rintro _ wd ⟨rfl, hF⟩
  refine ⟨.tuple #[.int .i64 (pagesV n), .bool (isSize n)], rfl, ?_⟩
  replace hS := St.put (d := 29) (v := .tuple #[.int .i64 (pagesV n), .bool (isSize n)]) (hS.to (hS.mem.keep0 hF)) (by decide)
  clear hF
  refine St.ops 5 [⟨0, 0, 0⟩, ⟨0, 0, 0⟩, ⟨0, 0, 0⟩, ⟨0, 0, 0⟩, ⟨0, 0, 0⟩] [0, 1, 5, 6, 7, 8, 9, 10] [] hS fun _ => ⟨[(0, [], .int .i64 n), (1, [], .int .i64 a), (5, [], .int .i64 (upV n a)), (6, [], .bool (upOk n a)), (7, [], .int .i64 (upV n a)), (8, [], .bool (upOk n a)), (9, [], .int .i64 (pagesV n)), (10, [], .bool (isSize n))], [], [], by as_aux_lemma => kernel_rfl, trivial, fun ac wd hS => ?_⟩
  refine list_nil_seq ?_
  refine wp_region_seq ?_
  refine St.ops 1 [⟨0, 0, 0⟩] [1, 5, 6, 7, 8, 9, 10, 33] [] hS fun _ => ⟨[(1, [], .int .i64 a), (5, [], .int .i64 (upV n a)), (6, [], .bool (upOk n a)), (7, [], .int .i64 (upV n a)), (8, [], .bool (upOk n a)), (9, [], .int .i64 (pagesV n)), (10, [], .bool (isSize n)), (33, [], .int .i64 n)], [], [], by as_aux_lemma => kernel_rfl, trivial, fun ac wd hS => ?_⟩
  refine St.call 0 0 hS (f := 11) (args := #[.int .i64 n]) (obs := []) (by as_aux_lemma => kernel_rfl) trivial (by as_aux_lemma => kernel_rfl) (ref01_Pages n _ ) ?_
  rintro _ wd ⟨rfl, hF⟩
  refine ⟨.tuple #[.int .i64 (pagesV n), .bool (isSize n)], rfl, ?_⟩
  replace hS := St.put (d := 34) (v := .tuple #[.int .i64 (pagesV n), .bool (isSize n)]) (hS.to (hS.mem.keep0 hF)) (by decide)
  clear hF
  refine St.ops 5 [⟨0, 0, 0⟩, ⟨0, 0, 0⟩, ⟨0, 0, 0⟩, ⟨0, 0, 0⟩, ⟨0, 0, 0⟩] [1, 5, 6, 7, 8, 9, 10, 11, 12] [] hS fun _ => ⟨[(1, [], .int .i64 a), (5, [], .int .i64 (upV n a)), (6, [], .bool (upOk n a)), (7, [], .int .i64 (upV n a)), (8, [], .bool (upOk n a)), (9, [], .int .i64 (pagesV n)), (10, [], .bool (isSize n)), (11, [], .int .i64 (pagesV n)), (12, [], .bool (isSize n))], [], [], by as_aux_lemma => kernel_rfl, trivial, fun ac wd hS => ?_⟩
  refine list_nil_seq ?_
  refine wp_region_seq ?_
  refine St.ops 19 [⟨0, 0, 0⟩, ⟨0, 0, 0⟩, ⟨0, 0, 0⟩, ⟨0, 0, 0⟩, ⟨3, 0, 0⟩, ⟨3, 0, 0⟩, ⟨3, 0, 0⟩, ⟨0, 8, 0⟩, ⟨0, 0, 0⟩, ⟨3, 0, 0⟩, ⟨3, 0, 0⟩, ⟨3, 0, 0⟩, ⟨0, 8, 0⟩, ⟨0, 0, 0⟩, ⟨3, 0, 0⟩, ⟨3, 0, 0⟩, ⟨3, 0, 0⟩, ⟨0, 8, 0⟩, ⟨0, 0, 0⟩] [1, 55] [] hS fun _ => ⟨[(1, [], .int .i64 a), (55, [], .bool ((((((upV n a) : Int) == (upV n a)) && ((upOk n a) == (upOk n a))) && (((pagesV n) : Int) == (pagesV n))) && ((isSize n) == (isSize n))))], [], [], by as_aux_lemma => kernel_rfl, trivial, fun ac wd hS => ?_⟩
  rcases Bool.eq_false_or_eq_true ((((((upV n a) : Int) == (upV n a)) && ((upOk n a) == (upOk n a))) && (((pagesV n) : Int) == (pagesV n))) && ((isSize n) == (isSize n))) with hg2 | hg2
  · rw [hg2] at hS
    have hg2o := hg2
    try simp only [decide_eq_true_eq, decide_eq_false_iff_not, beq_iff_eq, bne_iff_ne, beq_eq_false_iff_ne, bne_eq_false_iff_eq, Bool.and_eq_true, Bool.or_eq_true, Bool.and_eq_false_iff, Bool.or_eq_false_iff, Bool.not_eq_true', Bool.not_eq_false', ne_eq, Int.not_lt, Int.not_le, Bool.true_and, Bool.false_and, Bool.and_true, Bool.and_false, Bool.or_true, Bool.or_false, Bool.true_or, Bool.false_or, Bool.not_true, Bool.not_false] at hg2
    refine St.ops 1 [⟨1, 0, 0⟩] [1, 55, 56] [] hS fun _ => ⟨[(1, [], .int .i64 a), (55, [], .bool true), (56, [], .int .i64 a)], [], [(.bool true : Value) = .bool true], by as_aux_lemma => kernel_rfl, ⟨rfl, trivial⟩, fun ac wd hS => ?_⟩
    refine St.call 1 0 hS (f := 12) (args := #[.int .i64 a]) (obs := [(.bool true : Value) = .bool true]) (by as_aux_lemma => kernel_rfl) ⟨rfl, trivial⟩ (by as_aux_lemma => kernel_rfl) (size_Whole a _ ) ?_
    rintro _ wd ⟨rfl, hF⟩
    refine ⟨.bool (whole a), rfl, ?_⟩
    replace hS := St.put (d := 57) (v := .bool (whole a)) (hS.to (hS.mem.keep0 hF)) (by decide)
    clear hF
    refine St.ops 1 [⟨1, 0, 0⟩] [55, 57, 58] [] hS fun _ => ⟨[(55, [], .bool true), (57, [], .bool (whole a)), (58, [], .int .i64 a)], [], [(.bool true : Value) = .bool true], by as_aux_lemma => kernel_rfl, ⟨rfl, trivial⟩, fun ac wd hS => ?_⟩
    refine St.call 1 0 hS (f := 13) (args := #[.int .i64 a]) (obs := [(.bool true : Value) = .bool true]) (by as_aux_lemma => kernel_rfl) ⟨rfl, trivial⟩ (by as_aux_lemma => kernel_rfl) (ref01_Whole a _ ) ?_
    rintro _ wd ⟨rfl, hF⟩
    refine ⟨.bool (whole a), rfl, ?_⟩
    replace hS := St.put (d := 59) (v := .bool (whole a)) (hS.to (hS.mem.keep0 hF)) (by decide)
    clear hF
    refine St.ops 3 [⟨1, 0, 0⟩, ⟨0, 7, 0⟩, ⟨0, 0, 0⟩] [4] [] hS fun _ => ⟨[(4, [], .bool ((whole a) == (whole a)))], [], [(.bool true : Value) = .bool true, (.bool true : Value) = .bool true], by as_aux_lemma => kernel_rfl, ⟨rfl, rfl, trivial⟩, fun ac wd hS => ?_⟩
    refine list_nil_seq ?_
    refine wp_ret ?_
    refine St.ret 0 hS (v := .bool ((whole a) == (whole a))) (obs := []) (by as_aux_lemma => kernel_rfl) trivial fun hw => ?_
    refine ⟨retd (vbool ?_), hw.fr⟩
    all_goals (first | (simp; done) | (simp at *; done))
  · rw [hg2] at hS
    have hg2o := hg2
    try simp only [decide_eq_true_eq, decide_eq_false_iff_not, beq_iff_eq, bne_iff_ne, beq_eq_false_iff_ne, bne_eq_false_iff_eq, Bool.and_eq_true, Bool.or_eq_true, Bool.and_eq_false_iff, Bool.or_eq_false_iff, Bool.not_eq_true', Bool.not_eq_false', ne_eq, Int.not_lt, Int.not_le, Bool.true_and, Bool.false_and, Bool.and_true, Bool.and_false, Bool.or_true, Bool.or_false, Bool.true_or, Bool.false_or, Bool.not_true, Bool.not_false] at hg2
    refine St.ops 7 [⟨2, 0, 0⟩, ⟨2, 0, 0⟩, ⟨2, 0, 0⟩, ⟨2, 0, 0⟩, ⟨2, 0, 0⟩, ⟨0, 6, 0⟩, ⟨0, 0, 0⟩] [4] [] hS fun _ => ⟨[(4, [], .bool false)], [], [(.bool false : Value) = .bool false, (.bool false : Value) = .bool (!true), (.bool false : Value) = .bool (!true), (.bool false : Value) = .bool (!true), (.bool false : Value) = .bool (!true), (.bool false : Value) = .bool (!true)], by as_aux_lemma => kernel_rfl, ⟨rfl, rfl, rfl, rfl, rfl, rfl, trivial⟩, fun ac wd hS => ?_⟩
    refine list_nil_seq ?_
    refine wp_ret ?_
    refine St.ret 0 hS (v := .bool false) (obs := []) (by as_aux_lemma => kernel_rfl) trivial fun hw => ?_
    refine ⟨retd (vbool ?_), hw.fr⟩
    all_goals (first | (simp; done) | (simp at *; done))

set_option maxRecDepth 100000 in
set_option maxHeartbeats 4000000 in
theorem law_SizeOrders (p : Int) (o : Int) (w : World) :
    Calls Try.prog 5 #[.int .i64 p, .int .i64 o] w fun e w' => e = .returned (.bool true) ∧ Fr w w' [] [] := by
  refine enter (args := [.int .i64 p, .int .i64 o]) (A := []) Try.func5 rfl 36 rfl [] (WS.start (AllAr.nil w)) fun ac hS => ?_
  refine St.region_seq [⟨0, 0, 0⟩] [0, 1] [] hS fun _ => ⟨[(0, [], .int .i64 p), (1, [], .int .i64 o)], [], [], by as_aux_lemma => kernel_rfl, trivial, fun ac wd hS => ?_⟩
  refine wp_seq ?_
  refine wp_region_seq ?_
  refine St.call 0 0 hS (f := 7) (args := #[]) (obs := []) (by as_aux_lemma => kernel_rfl) trivial (by as_aux_lemma => kernel_rfl) (law01_awake  _ ) ?_
  rintro _ wd ⟨rfl, hF⟩
  refine ⟨.bool true, rfl, ?_⟩
  replace hS := St.put (d := 9) (v := .bool true) (hS.to (hS.mem.keep0 hF)) (by decide)
  clear hF
  refine St.ops 1 [⟨0, 0, 0⟩] [0, 1, 10] [] hS fun _ => ⟨[(0, [], .int .i64 p), (1, [], .int .i64 o), (10, [], .bool false)], [], [], by as_aux_lemma => kernel_rfl, trivial, fun ac wd hS => ?_⟩
  refine list_nil_seq ?_
  refine St.cond (b := false) hS (by as_aux_lemma => kernel_rfl) (fun h => nomatch h) (fun _ => ?_)
  refine wp_skip ?_
  refine pop_then ?_
  refine wp_region_seq ?_
  refine St.ops 1 [⟨0, 0, 0⟩] [0, 1, 12] [] hS fun _ => ⟨[(0, [], .int .i64 p), (1, [], .int .i64 o), (12, [], .int .i64 p)], [], [], by as_aux_lemma => kernel_rfl, trivial, fun ac wd hS => ?_⟩
  refine St.call 0 0 hS (f := 16) (args := #[.int .i64 p]) (obs := []) (by as_aux_lemma => kernel_rfl) trivial (by as_aux_lemma => kernel_rfl) (size_Order p _ ) ?_
  rintro _ wd ⟨rfl, hF⟩
  refine ⟨.tuple #[.int .i64 (ordV p), .bool (ordOk p)], rfl, ?_⟩
  replace hS := St.put (d := 13) (v := .tuple #[.int .i64 (ordV p), .bool (ordOk p)]) (hS.to (hS.mem.keep0 hF)) (by decide)
  clear hF
  refine St.ops 5 [⟨0, 0, 0⟩, ⟨0, 0, 0⟩, ⟨0, 0, 0⟩, ⟨0, 0, 0⟩, ⟨0, 0, 0⟩] [0, 1, 5, 6] [] hS fun _ => ⟨[(0, [], .int .i64 p), (1, [], .int .i64 o), (5, [], .int .i64 (ordV p)), (6, [], .bool (ordOk p))], [], [], by as_aux_lemma => kernel_rfl, trivial, fun ac wd hS => ?_⟩
  refine list_nil_seq ?_
  refine wp_region_seq ?_
  refine St.ops 1 [⟨0, 0, 0⟩] [1, 5, 6, 17] [] hS fun _ => ⟨[(1, [], .int .i64 o), (5, [], .int .i64 (ordV p)), (6, [], .bool (ordOk p)), (17, [], .int .i64 p)], [], [], by as_aux_lemma => kernel_rfl, trivial, fun ac wd hS => ?_⟩
  refine St.call 0 0 hS (f := 17) (args := #[.int .i64 p]) (obs := []) (by as_aux_lemma => kernel_rfl) trivial (by as_aux_lemma => kernel_rfl) (ref01_Order p _ ) ?_
  rintro _ wd ⟨rfl, hF⟩
  refine ⟨.tuple #[.int .i64 (ordV p), .bool (ordOk p)], rfl, ?_⟩
  replace hS := St.put (d := 18) (v := .tuple #[.int .i64 (ordV p), .bool (ordOk p)]) (hS.to (hS.mem.keep0 hF)) (by decide)
  clear hF
  refine St.ops 5 [⟨0, 0, 0⟩, ⟨0, 0, 0⟩, ⟨0, 0, 0⟩, ⟨0, 0, 0⟩, ⟨0, 0, 0⟩] [1, 5, 6, 7, 8] [] hS fun _ => ⟨[(1, [], .int .i64 o), (5, [], .int .i64 (ordV p)), (6, [], .bool (ordOk p)), (7, [], .int .i64 (ordV p)), (8, [], .bool (ordOk p))], [], [], by as_aux_lemma => kernel_rfl, trivial, fun ac wd hS => ?_⟩
  refine list_nil_seq ?_
  refine wp_region_seq ?_
  refine St.ops 9 [⟨0, 0, 0⟩, ⟨0, 0, 0⟩, ⟨0, 0, 0⟩, ⟨0, 0, 0⟩, ⟨3, 0, 0⟩, ⟨3, 0, 0⟩, ⟨3, 0, 0⟩, ⟨0, 8, 0⟩, ⟨0, 0, 0⟩] [1, 29] [] hS fun _ => ⟨[(1, [], .int .i64 o), (29, [], .bool ((((ordV p) : Int) == (ordV p)) && ((ordOk p) == (ordOk p))))], [], [], by as_aux_lemma => kernel_rfl, trivial, fun ac wd hS => ?_⟩
  rcases Bool.eq_false_or_eq_true ((((ordV p) : Int) == (ordV p)) && ((ordOk p) == (ordOk p))) with hg2 | hg2
  · rw [hg2] at hS
    have hg2o := hg2
    try simp only [decide_eq_true_eq, decide_eq_false_iff_not, beq_iff_eq, bne_iff_ne, beq_eq_false_iff_ne, bne_eq_false_iff_eq, Bool.and_eq_true, Bool.or_eq_true, Bool.and_eq_false_iff, Bool.or_eq_false_iff, Bool.not_eq_true', Bool.not_eq_false', ne_eq, Int.not_lt, Int.not_le, Bool.true_and, Bool.false_and, Bool.and_true, Bool.and_false, Bool.or_true, Bool.or_false, Bool.true_or, Bool.false_or, Bool.not_true, Bool.not_false] at hg2
    refine St.ops 1 [⟨1, 0, 0⟩] [1, 29, 30] [] hS fun _ => ⟨[(1, [], .int .i64 o), (29, [], .bool true), (30, [], .int .i64 o)], [], [(.bool true : Value) = .bool true], by as_aux_lemma => kernel_rfl, ⟨rfl, trivial⟩, fun ac wd hS => ?_⟩
    refine St.call 1 0 hS (f := 18) (args := #[.int .i64 o]) (obs := [(.bool true : Value) = .bool true]) (by as_aux_lemma => kernel_rfl) ⟨rfl, trivial⟩ (by as_aux_lemma => kernel_rfl) (size_Span o _ ) ?_
    rintro _ wd ⟨rfl, hF⟩
    refine ⟨.int .i64 (spanV o), rfl, ?_⟩
    replace hS := St.put (d := 31) (v := .int .i64 (spanV o)) (hS.to (hS.mem.keep0 hF)) (by decide)
    clear hF
    refine St.ops 1 [⟨1, 0, 0⟩] [29, 31, 32] [] hS fun _ => ⟨[(29, [], .bool true), (31, [], .int .i64 (spanV o)), (32, [], .int .i64 o)], [], [(.bool true : Value) = .bool true], by as_aux_lemma => kernel_rfl, ⟨rfl, trivial⟩, fun ac wd hS => ?_⟩
    refine St.call 1 0 hS (f := 19) (args := #[.int .i64 o]) (obs := [(.bool true : Value) = .bool true]) (by as_aux_lemma => kernel_rfl) ⟨rfl, trivial⟩ (by as_aux_lemma => kernel_rfl) (ref01_Span o _ ) ?_
    rintro _ wd ⟨rfl, hF⟩
    refine ⟨.int .i64 (spanV o), rfl, ?_⟩
    replace hS := St.put (d := 33) (v := .int .i64 (spanV o)) (hS.to (hS.mem.keep0 hF)) (by decide)
    clear hF
    refine St.ops 3 [⟨1, 0, 0⟩, ⟨0, 7, 0⟩, ⟨0, 0, 0⟩] [4] [] hS fun _ => ⟨[(4, [], .bool (((spanV o) : Int) == (spanV o)))], [], [(.bool true : Value) = .bool true, (.bool true : Value) = .bool true], by as_aux_lemma => kernel_rfl, ⟨rfl, rfl, trivial⟩, fun ac wd hS => ?_⟩
    refine list_nil_seq ?_
    refine wp_ret ?_
    refine St.ret 0 hS (v := .bool (((spanV o) : Int) == (spanV o))) (obs := []) (by as_aux_lemma => kernel_rfl) trivial fun hw => ?_
    refine ⟨retd (vbool ?_), hw.fr⟩
    all_goals (first | (simp; done) | (simp at *; done))
  · rw [hg2] at hS
    have hg2o := hg2
    try simp only [decide_eq_true_eq, decide_eq_false_iff_not, beq_iff_eq, bne_iff_ne, beq_eq_false_iff_ne, bne_eq_false_iff_eq, Bool.and_eq_true, Bool.or_eq_true, Bool.and_eq_false_iff, Bool.or_eq_false_iff, Bool.not_eq_true', Bool.not_eq_false', ne_eq, Int.not_lt, Int.not_le, Bool.true_and, Bool.false_and, Bool.and_true, Bool.and_false, Bool.or_true, Bool.or_false, Bool.true_or, Bool.false_or, Bool.not_true, Bool.not_false] at hg2
    refine St.ops 7 [⟨2, 0, 0⟩, ⟨2, 0, 0⟩, ⟨2, 0, 0⟩, ⟨2, 0, 0⟩, ⟨2, 0, 0⟩, ⟨0, 6, 0⟩, ⟨0, 0, 0⟩] [4] [] hS fun _ => ⟨[(4, [], .bool false)], [], [(.bool false : Value) = .bool false, (.bool false : Value) = .bool (!true), (.bool false : Value) = .bool (!true), (.bool false : Value) = .bool (!true), (.bool false : Value) = .bool (!true), (.bool false : Value) = .bool (!true)], by as_aux_lemma => kernel_rfl, ⟨rfl, rfl, rfl, rfl, rfl, rfl, trivial⟩, fun ac wd hS => ?_⟩
    refine list_nil_seq ?_
    refine wp_ret ?_
    refine St.ret 0 hS (v := .bool false) (obs := []) (by as_aux_lemma => kernel_rfl) trivial fun hw => ?_
    refine ⟨retd (vbool ?_), hw.fr⟩
    all_goals (first | (simp; done) | (simp at *; done))

set_option maxRecDepth 100000 in
set_option maxHeartbeats 4000000 in
theorem law_SizeSums (g : Nat) (o : Nat) (c : Nat) (l : List Int) (w : World) (hh0 : HE.holds w g (.fn o (o + l.length) (ints l o))) :
    Calls Try.prog 4 #[.slice (some ⟨g, o, none⟩) l.length c] w fun e w' => e = .returned (.bool true) ∧ Fr w w' [] [] := by
  refine enter (args := [.slice (some ⟨g, o, none⟩) l.length c]) (A := []) Try.func4 rfl 30 rfl [(g, .fn o (o + l.length) (ints l o))] (WS.start1 hh0) fun ac hS => ?_
  refine St.region_seq [⟨0, 0, 0⟩] [0] [0] hS fun _ => ⟨[(0, [], .slice (some ⟨g, o, none⟩) l.length c)], [(g, .fn o (o + l.length) (ints l o))], [], by as_aux_lemma => kernel_rfl, trivial, fun ac wd hS => ?_⟩
  refine wp_seq ?_
  refine wp_region_seq ?_
  refine St.call 0 0 hS (f := 7) (args := #[]) (obs := []) (by as_aux_lemma => kernel_rfl) trivial (by as_aux_lemma => kernel_rfl) (law01_awake  _ ) ?_
  rintro _ wd ⟨rfl, hF⟩
  refine ⟨.bool true, rfl, ?_⟩
  replace hS := St.put (d := 7) (v := .bool true) (hS.to (hS.mem.keep0 hF)) (by decide)
  clear hF
  refine St.ops 1 [⟨0, 0, 0⟩] [0, 8] [0] hS fun _ => ⟨[(0, [], .slice (some ⟨g, o, none⟩) l.length c), (8, [], .bool false)], [(g, .fn o (o + l.length) (ints l o))], [], by as_aux_lemma => kernel_rfl, trivial, fun ac wd hS => ?_⟩
  refine list_nil_seq ?_
  refine St.cond (b := false) hS (by as_aux_lemma => kernel_rfl) (fun h => nomatch h) (fun _ => ?_)
  refine wp_skip ?_
  refine pop_then ?_
  refine wp_seq ?_
  refine St.region_seq [⟨0, 0, 0⟩, ⟨0, 0, 0⟩, ⟨0, 0, 0⟩] [0, 11] [0] hS fun _ => ⟨[(0, [], .slice (some ⟨g, o, none⟩) l.length c), (11, [], .bool (decide ((100 : Int) < ((l.length : Nat) : Int))))], [(g, .fn o (o + l.length) (ints l o))], [], by as_aux_lemma => kernel_rfl, trivial, fun ac wd hS => ?_⟩
  refine St.cond (b := (decide ((100 : Int) < ((l.length : Nat) : Int)))) hS (by as_aux_lemma => kernel_rfl) (fun hb2 => ?_) (fun hb2 => ?_)
  · have hb2o := hb2
    try simp only [decide_eq_true_eq, decide_eq_false_iff_not, beq_iff_eq, bne_iff_ne, beq_eq_false_iff_ne, bne_eq_false_iff_eq, Bool.and_eq_true, Bool.or_eq_true, Bool.and_eq_false_iff, Bool.or_eq_false_iff, Bool.not_eq_true', Bool.not_eq_false', ne_eq, Int.not_lt, Int.not_le, Bool.true_and, Bool.false_and, Bool.and_true, Bool.and_false, Bool.or_true, Bool.or_false, Bool.true_or, Bool.false_or, Bool.not_true, Bool.not_false] at hb2
    refine St.region_seq [⟨0, 0, 0⟩] [2] [] hS fun _ => ⟨[(2, [], .bool true)], [], [], by as_aux_lemma => kernel_rfl, trivial, fun ac wd hS => ?_⟩
    refine wp_ret ?_
    refine pop_then_ret ?_
    refine St.ret 0 hS (v := .bool true) (obs := []) (by as_aux_lemma => kernel_rfl) trivial fun hw => ?_
    refine ⟨retd rfl, hw.fr⟩
  · have hb2o := hb2
    try simp only [decide_eq_true_eq, decide_eq_false_iff_not, beq_iff_eq, bne_iff_ne, beq_eq_false_iff_ne, bne_eq_false_iff_eq, Bool.and_eq_true, Bool.or_eq_true, Bool.and_eq_false_iff, Bool.or_eq_false_iff, Bool.not_eq_true', Bool.not_eq_false', ne_eq, Int.not_lt, Int.not_le, Bool.true_and, Bool.false_and, Bool.and_true, Bool.and_false, Bool.or_true, Bool.or_false, Bool.true_or, Bool.false_or, Bool.not_true, Bool.not_false] at hb2
    refine wp_skip ?_
    refine pop_then ?_
    refine wp_region_seq ?_
    refine St.ops 1 [⟨0, 0, 0⟩] [0, 13] [0] hS fun _ => ⟨[(0, [], .slice (some ⟨g, o, none⟩) l.length c), (13, [], .slice (some ⟨g, o, none⟩) l.length c)], [(g, .fn o (o + l.length) (ints l o))], [], by as_aux_lemma => kernel_rfl, trivial, fun ac wd hS => ?_⟩
    refine St.call 0 0 hS (f := 14) (args := #[.slice (some ⟨g, o, none⟩) l.length c]) (obs := []) (by as_aux_lemma => kernel_rfl) trivial (by as_aux_lemma => kernel_rfl) (size_Sum g o c l _ (hS.mem.heap _ (List.mem_of_getElem? (i := 0) rfl)) (by omega)) ?_
    rintro _ wd ⟨rfl, hF⟩
    refine ⟨.tuple #[.int .i64 ((sumGo 0 l).1), .bool ((sumGo 0 l).2)], rfl, ?_⟩
    replace hS := St.put (d := 14) (v := .tuple #[.int .i64 ((sumGo 0 l).1), .bool ((sumGo 0 l).2)]) (hS.to (hS.mem.keep0 hF)) (by decide)
    clear hF
    refine St.ops 5 [⟨0, 0, 0⟩, ⟨0, 0, 0⟩, ⟨0, 0, 0⟩, ⟨0, 0, 0⟩, ⟨0, 0, 0⟩] [0, 3, 4] [0] hS fun _ => ⟨[(0, [], .slice (some ⟨g, o, none⟩) l.length c), (3, [], .int .i64 ((sumGo 0 l).1)), (4, [], .bool ((sumGo 0 l).2))], [(g, .fn o (o + l.length) (ints l o))], [], by as_aux_lemma => kernel_rfl, trivial, fun ac wd hS => ?_⟩
    refine list_nil_seq ?_
    refine wp_region_seq ?_
    refine St.ops 1 [⟨0, 0, 0⟩] [3, 4, 18] [0] hS fun _ => ⟨[(3, [], .int .i64 ((sumGo 0 l).1)), (4, [], .bool ((sumGo 0 l).2)), (18, [], .slice (some ⟨g, o, none⟩) l.length c)], [(g, .fn o (o + l.length) (ints l o))], [], by as_aux_lemma => kernel_rfl, trivial, fun ac wd hS => ?_⟩
    refine St.call 0 0 hS (f := 15) (args := #[.slice (some ⟨g, o, none⟩) l.length c]) (obs := []) (by as_aux_lemma => kernel_rfl) trivial (by as_aux_lemma => kernel_rfl) (ref01_Sum g o c l _ (hS.mem.heap _ (List.mem_of_getElem? (i := 0) rfl)) (by omega)) ?_
    rintro _ wd ⟨rfl, hF⟩
    refine ⟨.tuple #[.int .i64 ((sumGo 0 l).1), .bool ((sumGo 0 l).2)], rfl, ?_⟩
    replace hS := St.put (d := 19) (v := .tuple #[.int .i64 ((sumGo 0 l).1), .bool ((sumGo 0 l).2)]) (hS.to (hS.mem.keep0 hF)) (by decide)
    clear hF
    refine St.ops 5 [⟨0, 0, 0⟩, ⟨0, 0, 0⟩, ⟨0, 0, 0⟩, ⟨0, 0, 0⟩, ⟨0, 0, 0⟩] [3, 4, 5, 6] [] hS fun _ => ⟨[(3, [], .int .i64 ((sumGo 0 l).1)), (4, [], .bool ((sumGo 0 l).2)), (5, [], .int .i64 ((sumGo 0 l).1)), (6, [], .bool ((sumGo 0 l).2))], [], [], by as_aux_lemma => kernel_rfl, trivial, fun ac wd hS => ?_⟩
    refine list_nil_seq ?_
    refine St.region_seq [⟨0, 0, 0⟩, ⟨0, 0, 0⟩, ⟨0, 0, 0⟩, ⟨0, 0, 0⟩, ⟨3, 0, 0⟩, ⟨3, 0, 0⟩, ⟨3, 0, 0⟩, ⟨0, 8, 0⟩, ⟨0, 0, 0⟩] [2] [] hS fun _ => ⟨[(2, [], .bool ((((sumGo 0 l).1 : Int) == ((sumGo 0 l).1)) && (((sumGo 0 l).2) == ((sumGo 0 l).2))))], [], [], by as_aux_lemma => kernel_rfl, trivial, fun ac wd hS => ?_⟩
    refine wp_ret ?_
    refine St.ret 0 hS (v := .bool ((((sumGo 0 l).1 : Int) == ((sumGo 0 l).1)) && (((sumGo 0 l).2) == ((sumGo 0 l).2)))) (obs := []) (by as_aux_lemma => kernel_rfl) trivial fun hw => ?_
    refine ⟨retd (vbool ?_), hw.fr⟩
    all_goals (first | rfl | (simp; done) | (simp at *; done))

set_option maxRecDepth 100000 in
set_option maxHeartbeats 4000000 in
theorem law_SizeSums_empty (ao : Option Addr) (c : Nat) (w : World) :
    Calls Try.prog 4 #[.slice ao 0 c] w fun e w' => e = .returned (.bool true) ∧ Fr w w' [] [] := by
  refine enter (args := [.slice ao 0 c]) (A := []) Try.func4 rfl 30 rfl [] (WS.start (AllAr.nil w)) fun ac hS => ?_
  refine St.region_seq [⟨0, 0, 0⟩] [0] [] hS fun _ => ⟨[(0, [], .slice ao 0 c)], [], [], by as_aux_lemma => kernel_rfl, trivial, fun ac wd hS => ?_⟩
  refine wp_seq ?_
  refine wp_region_seq ?_
  refine St.call 0 0 hS (f := 7) (args := #[]) (obs := []) (by as_aux_lemma => kernel_rfl) trivial (by as_aux_lemma => kernel_rfl) (law01_awake  _ ) ?_
  rintro _ wd ⟨rfl, hF⟩
  refine ⟨.bool true, rfl, ?_⟩
  replace hS := St.put (d := 7) (v := .bool true) (hS.to (hS.mem.keep0 hF)) (by decide)
  clear hF
  refine St.ops 1 [⟨0, 0, 0⟩] [0, 8] [] hS fun _ => ⟨[(0, [], .slice ao 0 c), (8, [], .bool false)], [], [], by as_aux_lemma => kernel_rfl, trivial, fun ac wd hS => ?_⟩
  refine list_nil_seq ?_
  refine St.cond (b := false) hS (by as_aux_lemma => kernel_rfl) (fun h => nomatch h) (fun _ => ?_)
  refine wp_skip ?_
  refine pop_then ?_
  refine wp_seq ?_
  refine St.region_seq [⟨0, 0, 0⟩, ⟨0, 0, 0⟩, ⟨0, 0, 0⟩] [0, 11] [] hS fun _ => ⟨[(0, [], .slice ao 0 c), (11, [], .bool false)], [], [], by as_aux_lemma => kernel_rfl, trivial, fun ac wd hS => ?_⟩
  refine St.cond (b := false) hS (by as_aux_lemma => kernel_rfl) (fun h => nomatch h) (fun _ => ?_)
  refine wp_skip ?_
  refine pop_then ?_
  refine wp_region_seq ?_
  refine St.ops 1 [⟨0, 0, 0⟩] [0, 13] [] hS fun _ => ⟨[(0, [], .slice ao 0 c), (13, [], .slice ao 0 c)], [], [], by as_aux_lemma => kernel_rfl, trivial, fun ac wd hS => ?_⟩
  refine St.call 0 0 hS (f := 14) (args := #[.slice ao 0 c]) (obs := []) (by as_aux_lemma => kernel_rfl) trivial (by as_aux_lemma => kernel_rfl) (size_Sum_empty ao c _ ) ?_
  rintro _ wd ⟨rfl, hF⟩
  refine ⟨.tuple #[.int .i64 0, .bool true], rfl, ?_⟩
  replace hS := St.put (d := 14) (v := .tuple #[.int .i64 0, .bool true]) (hS.to (hS.mem.keep0 hF)) (by decide)
  clear hF
  refine St.ops 5 [⟨0, 0, 0⟩, ⟨0, 0, 0⟩, ⟨0, 0, 0⟩, ⟨0, 0, 0⟩, ⟨0, 0, 0⟩] [0, 3, 4] [] hS fun _ => ⟨[(0, [], .slice ao 0 c), (3, [], .int .i64 0), (4, [], .bool true)], [], [], by as_aux_lemma => kernel_rfl, trivial, fun ac wd hS => ?_⟩
  refine list_nil_seq ?_
  refine wp_region_seq ?_
  refine St.ops 1 [⟨0, 0, 0⟩] [3, 4, 18] [] hS fun _ => ⟨[(3, [], .int .i64 0), (4, [], .bool true), (18, [], .slice ao 0 c)], [], [], by as_aux_lemma => kernel_rfl, trivial, fun ac wd hS => ?_⟩
  refine St.call 0 0 hS (f := 15) (args := #[.slice ao 0 c]) (obs := []) (by as_aux_lemma => kernel_rfl) trivial (by as_aux_lemma => kernel_rfl) (ref01_Sum_empty ao c _ ) ?_
  rintro _ wd ⟨rfl, hF⟩
  refine ⟨.tuple #[.int .i64 0, .bool true], rfl, ?_⟩
  replace hS := St.put (d := 19) (v := .tuple #[.int .i64 0, .bool true]) (hS.to (hS.mem.keep0 hF)) (by decide)
  clear hF
  refine St.ops 5 [⟨0, 0, 0⟩, ⟨0, 0, 0⟩, ⟨0, 0, 0⟩, ⟨0, 0, 0⟩, ⟨0, 0, 0⟩] [3, 4, 5, 6] [] hS fun _ => ⟨[(3, [], .int .i64 0), (4, [], .bool true), (5, [], .int .i64 0), (6, [], .bool true)], [], [], by as_aux_lemma => kernel_rfl, trivial, fun ac wd hS => ?_⟩
  refine list_nil_seq ?_
  refine St.region_seq [⟨0, 0, 0⟩, ⟨0, 0, 0⟩, ⟨0, 0, 0⟩, ⟨0, 0, 0⟩, ⟨1, 0, 0⟩, ⟨1, 0, 0⟩, ⟨1, 0, 0⟩, ⟨0, 7, 0⟩, ⟨0, 0, 0⟩] [2] [] hS fun _ => ⟨[(2, [], .bool true)], [], [(.bool true : Value) = .bool true, (.bool true : Value) = .bool true, (.bool true : Value) = .bool true, (.bool true : Value) = .bool true], by as_aux_lemma => kernel_rfl, ⟨rfl, rfl, rfl, rfl, trivial⟩, fun ac wd hS => ?_⟩
  refine wp_ret ?_
  refine St.ret 0 hS (v := .bool true) (obs := []) (by as_aux_lemma => kernel_rfl) trivial fun hw => ?_
  refine ⟨retd rfl, hw.fr⟩

set_option maxRecDepth 100000 in
set_option maxHeartbeats 4000000 in
theorem law_SizeFits (n : Int) (a : Int) (w : World) :
    Calls Try.prog 6 #[.int .i64 n, .int .i64 a] w fun e w' => e = .returned (.bool true) ∧ Fr w w' [] [] := by
  refine enter (args := [.int .i64 n, .int .i64 a]) (A := []) Try.func6 rfl 117 rfl [] (WS.start (AllAr.nil w)) fun ac hS => ?_
  refine St.region_seq [⟨0, 0, 0⟩] [0, 1] [] hS fun _ => ⟨[(0, [], .int .i64 n), (1, [], .int .i64 a)], [], [], by as_aux_lemma => kernel_rfl, trivial, fun ac wd hS => ?_⟩
  refine wp_seq ?_
  refine wp_region_seq ?_
  refine St.call 0 0 hS (f := 7) (args := #[]) (obs := []) (by as_aux_lemma => kernel_rfl) trivial (by as_aux_lemma => kernel_rfl) (law01_awake  _ ) ?_
  rintro _ wd ⟨rfl, hF⟩
  refine ⟨.bool true, rfl, ?_⟩
  replace hS := St.put (d := 13) (v := .bool true) (hS.to (hS.mem.keep0 hF)) (by decide)
  clear hF
  refine St.ops 1 [⟨0, 0, 0⟩] [0, 1, 14] [] hS fun _ => ⟨[(0, [], .int .i64 n), (1, [], .int .i64 a), (14, [], .bool false)], [], [], by as_aux_lemma => kernel_rfl, trivial, fun ac wd hS => ?_⟩
  refine list_nil_seq ?_
  refine St.cond (b := false) hS (by as_aux_lemma => kernel_rfl) (fun h => nomatch h) (fun _ => ?_)
  refine wp_skip ?_
  refine pop_then ?_
  refine wp_region_seq ?_
  refine St.ops 2 [⟨0, 0, 0⟩, ⟨0, 0, 0⟩] [0, 1, 16, 17] [] hS fun _ => ⟨[(0, [], .int .i64 n), (1, [], .int .i64 a), (16, [], .int .i64 n), (17, [], .int .i64 a)], [], [], by as_aux_lemma => kernel_rfl, trivial, fun ac wd hS => ?_⟩
  refine St.call 0 0 hS (f := 8) (args := #[.int .i64 n, .int .i64 a]) (obs := []) (by as_aux_lemma => kernel_rfl) trivial (by as_aux_lemma => kernel_rfl) (size_Up n a _ ) ?_
  rintro _ wd ⟨rfl, hF⟩
  refine ⟨.tuple #[.int .i64 (upV n a), .bool (upOk n a)], rfl, ?_⟩
  replace hS := St.put (d := 18) (v := .tuple #[.int .i64 (upV n a), .bool (upOk n a)]) (hS.to (hS.mem.keep0 hF)) (by decide)
  clear hF
  refine St.ops 5 [⟨0, 0, 0⟩, ⟨0, 0, 0⟩, ⟨0, 0, 0⟩, ⟨0, 0, 0⟩, ⟨0, 0, 0⟩] [0, 1, 5, 6] [] hS fun _ => ⟨[(0, [], .int .i64 n), (1, [], .int .i64 a), (5, [], .int .i64 (upV n a)), (6, [], .bool (upOk n a))], [], [], by as_aux_lemma => kernel_rfl, trivial, fun ac wd hS => ?_⟩
  refine list_nil_seq ?_
  refine wp_seq ?_
  refine St.region_seq [⟨0, 0, 0⟩, ⟨0, 0, 0⟩] [0, 1, 5, 22] [] hS fun _ => ⟨[(0, [], .int .i64 n), (1, [], .int .i64 a), (5, [], .int .i64 (upV n a)), (22, [], .bool (!(upOk n a)))], [], [], by as_aux_lemma => kernel_rfl, trivial, fun ac wd hS => ?_⟩
  refine St.cond (b := (!(upOk n a))) hS (by as_aux_lemma => kernel_rfl) (fun hb2 => ?_) (fun hb2 => ?_)
  · have hb2o := hb2
    try simp only [decide_eq_true_eq, decide_eq_false_iff_not, beq_iff_eq, bne_iff_ne, beq_eq_false_iff_ne, bne_eq_false_iff_eq, Bool.and_eq_true, Bool.or_eq_true, Bool.and_eq_false_iff, Bool.or_eq_false_iff, Bool.not_eq_true', Bool.not_eq_false', ne_eq, Int.not_lt, Int.not_le, Bool.true_and, Bool.false_and, Bool.and_true, Bool.and_false, Bool.or_true, Bool.or_false, Bool.true_or, Bool.false_or, Bool.not_true, Bool.not_false] at hb2
    refine St.region_seq [⟨0, 0, 0⟩, ⟨0, 0, 0⟩, ⟨0, 0, 0⟩] [4] [] hS fun _ => ⟨[(4, [], .bool (((upV n a) : Int) == 0))], [], [], by as_aux_lemma => kernel_rfl, trivial, fun ac wd hS => ?_⟩
    refine wp_ret ?_
    refine pop_then_ret ?_
    refine St.ret 0 hS (v := .bool (((upV n a) : Int) == 0)) (obs := []) (by as_aux_lemma => kernel_rfl) trivial fun hw => ?_
    refine ⟨retd (vbool ?_), hw.fr⟩
    all_goals (first | rfl | (simp_all [upV]; done) | (have hq := gof hg5; simp; omega) | (exfalso; have hq := gof hg5; omega) | (exfalso; have hq := hob hg5; rcases hg4 with h | h; simp [h] at hg5; omega))
  · have hb2o := hb2
    try simp only [decide_eq_true_eq, decide_eq_false_iff_not, beq_iff_eq, bne_iff_ne, beq_eq_false_iff_ne, bne_eq_false_iff_eq, Bool.and_eq_true, Bool.or_eq_true, Bool.and_eq_false_iff, Bool.or_eq_false_iff, Bool.not_eq_true', Bool.not_eq_false', ne_eq, Int.not_lt, Int.not_le, Bool.true_and, Bool.false_and, Bool.and_true, Bool.and_false, Bool.or_true, Bool.or_false, Bool.true_or, Bool.false_or, Bool.not_true, Bool.not_false] at hb2
    obtain ⟨fa, fn, fu, ft, fm, fo, fi, fs⟩ := up_facts (n := n) (a := a) (by simpa using hb2o)
    obtain ⟨gp0, gp1, gp2, gp3, gp4⟩ := pages_facts fs
    have gob := ordV_bd (pagesV n)
    have gof := fun h => ord_facts (p := pagesV n) h
    have w1 : IntKind.wrap .i64 (upV n a - n) = upV n a - n := i64_in (by omega)
    have w2 : IntKind.wrap .i64 (pagesV n * 4096) = pagesV n * 4096 := i64_in (by omega)
    have w3 : IntKind.wrap .i64 (pagesV n - 1) = pagesV n - 1 := i64_in (by omega)
    have w4 : IntKind.wrap .i64 ((pagesV n - 1) * 4096) = (pagesV n - 1) * 4096 := i64_in (by omega)
    have hob : ordOk (pagesV n) = false → pagesV n < 1 ∨ 1024 < pagesV n := fun h => by simp [ordOk] at h; omega
    refine wp_skip ?_
    refine pop_then ?_
    refine wp_region_seq ?_
    refine St.ops 2 [⟨0, 0, 0⟩, ⟨0, 0, 0⟩] [0, 1, 5, 26, 27] [] hS fun _ => ⟨[(0, [], .int .i64 n), (1, [], .int .i64 a), (5, [], .int .i64 (upV n a)), (26, [], .int .i64 (upV n a)), (27, [], .int .i64 a)], [], [], by as_aux_lemma => kernel_rfl, trivial, fun ac wd hS => ?_⟩
    refine St.call 0 0 hS (f := 8) (args := #[.int .i64 (upV n a), .int .i64 a]) (obs := []) (by as_aux_lemma => kernel_rfl) trivial (by as_aux_lemma => kernel_rfl) (size_Up (upV n a) a _ ) ?_
    rintro _ wd ⟨rfl, hF⟩
    refine ⟨.tuple #[.int .i64 (upV (upV n a) a), .bool (upOk (upV n a) a)], rfl, ?_⟩
    replace hS := St.put (d := 28) (v := .tuple #[.int .i64 (upV (upV n a) a), .bool (upOk (upV n a) a)]) (hS.to (hS.mem.keep0 hF)) (by decide)
    clear hF
    refine St.ops 5 [⟨0, 0, 0⟩, ⟨0, 0, 0⟩, ⟨0, 0, 0⟩, ⟨0, 0, 0⟩, ⟨0, 0, 0⟩] [0, 1, 5, 7, 8] [] hS fun _ => ⟨[(0, [], .int .i64 n), (1, [], .int .i64 a), (5, [], .int .i64 (upV n a)), (7, [], .int .i64 (upV (upV n a) a)), (8, [], .bool (upOk (upV n a) a))], [], [], by as_aux_lemma => kernel_rfl, trivial, fun ac wd hS => ?_⟩
    refine list_nil_seq ?_
    refine wp_region_seq ?_
    refine St.ops 1 [⟨0, 0, 0⟩] [0, 1, 5, 7, 8, 32] [] hS fun _ => ⟨[(0, [], .int .i64 n), (1, [], .int .i64 a), (5, [], .int .i64 (upV n a)), (7, [], .int .i64 (upV (upV n a) a)), (8, [], .bool (upOk (upV n a) a)), (32, [], .int .i64 n)], [], [], by as_aux_lemma => kernel_rfl, trivial, fun ac wd hS => ?_⟩
    refine St.call 0 0 hS (f := 10) (args := #[.int .i64 n]) (obs := []) (by as_aux_lemma => kernel_rfl) trivial (by as_aux_lemma => kernel_rfl) (size_Pages n _ ) ?_
    rintro _ wd ⟨rfl, hF⟩
    refine ⟨.tuple #[.int .i64 (pagesV n), .bool (isSize n)], rfl, ?_⟩
    replace hS := St.put (d := 33) (v := .tuple #[.int .i64 (pagesV n), .bool (isSize n)]) (hS.to (hS.mem.keep0 hF)) (by decide)
    clear hF
    refine St.ops 5 [⟨0, 0, 0⟩, ⟨0, 0, 0⟩, ⟨0, 0, 0⟩, ⟨0, 0, 0⟩, ⟨0, 0, 0⟩] [0, 1, 5, 7, 8, 9, 10] [] hS fun _ => ⟨[(0, [], .int .i64 n), (1, [], .int .i64 a), (5, [], .int .i64 (upV n a)), (7, [], .int .i64 (upV (upV n a) a)), (8, [], .bool (upOk (upV n a) a)), (9, [], .int .i64 (pagesV n)), (10, [], .bool (isSize n))], [], [], by as_aux_lemma => kernel_rfl, trivial, fun ac wd hS => ?_⟩
    refine list_nil_seq ?_
    refine wp_seq ?_
    refine St.region_seq [⟨0, 0, 0⟩, ⟨0, 0, 0⟩, ⟨0, 0, 0⟩, ⟨3, 0, 0⟩, ⟨3, 0, 0⟩, ⟨0, 8, 0⟩, ⟨0, 0, 0⟩, ⟨3, 0, 0⟩, ⟨3, 0, 0⟩, ⟨3, 0, 0⟩, ⟨0, 8, 0⟩, ⟨0, 0, 0⟩, ⟨3, 0, 0⟩, ⟨3, 0, 0⟩, ⟨3, 0, 0⟩, ⟨0, 8, 0⟩, ⟨0, 0, 0⟩, ⟨3, 0, 0⟩, ⟨3, 0, 0⟩, ⟨3, 0, 0⟩, ⟨3, 0, 0⟩, ⟨3, 0, 0⟩, ⟨0, 8, 0⟩, ⟨0, 0, 0⟩, ⟨3, 0, 0⟩, ⟨3, 0, 0⟩, ⟨3, 1, 0⟩, ⟨3, 0, 0⟩, ⟨0, 8, 0⟩, ⟨0, 0, 0⟩, ⟨3, 0, 0⟩, ⟨3, 0, 0⟩, ⟨3, 0, 0⟩, ⟨3, 0, 0⟩, ⟨0, 8, 0⟩, ⟨0, 0, 0⟩, ⟨3, 0, 0⟩, ⟨3, 0, 0⟩, ⟨3, 0, 0⟩, ⟨3, 0, 0⟩, ⟨3, 0, 0⟩, ⟨3, 0, 0⟩, ⟨3, 0, 0⟩, ⟨3, 0, 0⟩, ⟨3, 8, 0⟩, ⟨0, 8, 0⟩] [0, 9, 81] [] hS fun _ => ⟨[(0, [], .int .i64 n), (9, [], .int .i64 (pagesV n)), (81, [], .bool ((((((((!(upOk (upV n a) a)) || (!(isSize n))) || (((upV n a) : Int) != (upV (upV n a) a))) || (decide (((upV n a) : Int) < n))) || (decide ((a : Int) ≤ (IntKind.wrap .i64 ((upV n a) - n))))) || (((Int.tmod (upV n a) a) : Int) != 0)) || (decide (((IntKind.wrap .i64 ((pagesV n) * 4096)) : Int) < n))) || ((decide ((0 : Int) < n)) && (decide ((n : Int) ≤ (IntKind.wrap .i64 ((IntKind.wrap .i64 ((pagesV n) - 1)) * 4096)))))))], [], [((((((((!(upOk (upV n a) a)) || (!(isSize n))) || (((upV n a) : Int) != (upV (upV n a) a))) || (decide (((upV n a) : Int) < n))) || (decide ((a : Int) ≤ (IntKind.wrap .i64 ((upV n a) - n))))) = false) ∧ True) → AllP [a ≠ 0])], by as_aux_lemma => kernel_rfl, ⟨(by first | omega | (intro _; exact ⟨by omega, trivial⟩)), trivial⟩, fun ac wd hS => ?_⟩
    refine St.cond (b := ((((((((!(upOk (upV n a) a)) || (!(isSize n))) || (((upV n a) : Int) != (upV (upV n a) a))) || (decide (((upV n a) : Int) < n))) || (decide ((a : Int) ≤ (IntKind.wrap .i64 ((upV n a) - n))))) || (((Int.tmod (upV n a) a) : Int) != 0)) || (decide (((IntKind.wrap .i64 ((pagesV n) * 4096)) : Int) < n))) || ((decide ((0 : Int) < n)) && (decide ((n : Int) ≤ (IntKind.wrap .i64 ((IntKind.wrap .i64 ((pagesV n) - 1)) * 4096))))))) hS (by as_aux_lemma => kernel_rfl) (fun h => absurd h (by simp [w1, w2, w3, w4, ft, fi, fo, fs]; omega)) (fun _ => ?_)
    refine wp_skip ?_
    refine pop_then ?_
    refine wp_region_seq ?_
    refine St.ops 1 [⟨0, 0, 0⟩] [0, 9, 83] [] hS fun _ => ⟨[(0, [], .int .i64 n), (9, [], .int .i64 (pagesV n)), (83, [], .int .i64 (pagesV n))], [], [], by as_aux_lemma => kernel_rfl, trivial, fun ac wd hS => ?_⟩
    refine St.call 0 0 hS (f := 16) (args := #[.int .i64 (pagesV n)]) (obs := []) (by as_aux_lemma => kernel_rfl) trivial (by as_aux_lemma => kernel_rfl) (size_Order (pagesV n) _ ) ?_
    rintro _ wd ⟨rfl, hF⟩
    refine ⟨.tuple #[.int .i64 (ordV (pagesV n)), .bool (ordOk (pagesV n))], rfl, ?_⟩
    replace hS := St.put (d := 84) (v := .tuple #[.int .i64 (ordV (pagesV n)), .bool (ordOk (pagesV n))]) (hS.to (hS.mem.keep0 hF)) (by decide)
    clear hF
    refine St.ops 5 [⟨0, 0, 0⟩, ⟨0, 0, 0⟩, ⟨0, 0, 0⟩, ⟨0, 0, 0⟩, ⟨0, 0, 0⟩] [0, 9, 11, 12] [] hS fun _ => ⟨[(0, [], .int .i64 n), (9, [], .int .i64 (pagesV n)), (11, [], .int .i64 (ordV (pagesV n))), (12, [], .bool (ordOk (pagesV n)))], [], [], by as_aux_lemma => kernel_rfl, trivial, fun ac wd hS => ?_⟩
    refine list_nil_seq ?_
    refine wp_region_seq ?_
    refine St.ops 11 [⟨0, 0, 0⟩, ⟨0, 0, 0⟩, ⟨0, 0, 0⟩, ⟨3, 0, 0⟩, ⟨3, 0, 0⟩, ⟨3, 0, 0⟩, ⟨3, 0, 0⟩, ⟨3, 0, 0⟩, ⟨3, 8, 0⟩, ⟨0, 8, 0⟩, ⟨0, 0, 0⟩] [0, 11, 12, 97] [] hS fun _ => ⟨[(0, [], .int .i64 n), (11, [], .int .i64 (ordV (pagesV n))), (12, [], .bool (ordOk (pagesV n))), (97, [], .bool ((!(ordOk (pagesV n))) && ((decide (((pagesV n) : Int) < 1)) || (decide ((1024 : Int) < (pagesV n))))))], [], [], by as_aux_lemma => kernel_rfl, trivial, fun ac wd hS => ?_⟩
    rcases Bool.eq_false_or_eq_true ((!(ordOk (pagesV n))) && ((decide (((pagesV n) : Int) < 1)) || (decide ((1024 : Int) < (pagesV n))))) with hg4 | hg4
    · rw [hg4] at hS
      have hg4o := hg4
      try simp only [decide_eq_true_eq, decide_eq_false_iff_not, beq_iff_eq, bne_iff_ne, beq_eq_false_iff_ne, bne_eq_false_iff_eq, Bool.and_eq_true, Bool.or_eq_true, Bool.and_eq_false_iff, Bool.or_eq_false_iff, Bool.not_eq_true', Bool.not_eq_false', ne_eq, Int.not_lt, Int.not_le, Bool.true_and, Bool.false_and, Bool.and_true, Bool.and_false, Bool.or_true, Bool.or_false, Bool.true_or, Bool.false_or, Bool.not_true, Bool.not_false] at hg4
      refine St.ops 2 [⟨2, 0, 0⟩, ⟨2, 0, 0⟩] [0, 11, 97, 99] [] hS fun _ => ⟨[(0, [], .int .i64 n), (11, [], .int .i64 (ordV (pagesV n))), (97, [], .bool true), (99, [], undef)], [], [(.bool true : Value) = .bool (!false), (.bool true : Value) = .bool (!false)], by as_aux_lemma => kernel_rfl, ⟨rfl, rfl, trivial⟩, fun ac wd hS => ?_⟩
      refine St.ops 6 [⟨4, 0, 0⟩, ⟨4, 0, 0⟩, ⟨4, 0, 0⟩, ⟨4, 0, 0⟩, ⟨2, 0, 0⟩, ⟨2, 0, 0⟩] [0, 11, 97, 105] [] hS fun _ => ⟨[(0, [], .int .i64 n), (11, [], .int .i64 (ordV (pagesV n))), (97, [], .bool true), (105, [], undef)], [], [(.bool true : Value) = .bool (!false), (.bool true : Value) = .bool (!false), (undef : Value) = undef, (undef : Value) = undef, (undef : Value) = undef, (undef : Value) = undef], by as_aux_lemma => kernel_rfl, ⟨rfl, rfl, rfl, rfl, rfl, rfl, trivial⟩, fun ac wd hS => ?_⟩
      refine St.ops 3 [⟨4, 0, 0⟩, ⟨4, 0, 0⟩, ⟨4, 0, 0⟩] [0, 11, 97, 105, 108] [] hS fun _ => ⟨[(0, [], .int .i64 n), (11, [], .int .i64 (ordV (pagesV n))), (97, [], .bool true), (105, [], undef), (108, [], undef)], [], [(undef : Value) = undef, (undef : Value) = undef, (undef : Value) = undef], by as_aux_lemma => kernel_rfl, ⟨rfl, rfl, rfl, trivial⟩, fun ac wd hS => ?_⟩
      refine St.ops 9 [⟨4, 0, 0⟩, ⟨4, 0, 0⟩, ⟨4, 0, 0⟩, ⟨4, 0, 0⟩, ⟨4, 0, 0⟩, ⟨4, 0, 0⟩, ⟨2, 0, 0⟩, ⟨0, 7, 0⟩, ⟨0, 0, 0⟩] [4] [] hS fun _ => ⟨[(4, [], .bool true)], [], [(.bool true : Value) = .bool true, (.bool true : Value) = .bool (!false), (undef : Value) = undef, (undef : Value) = undef, (undef : Value) = undef, (undef : Value) = undef, (undef : Value) = undef, (undef : Value) = undef], by as_aux_lemma => kernel_rfl, ⟨rfl, rfl, rfl, rfl, rfl, rfl, rfl, rfl, trivial⟩, fun ac wd hS => ?_⟩
      refine list_nil_seq ?_
      refine wp_ret ?_
      refine St.ret 0 hS (v := .bool true) (obs := []) (by as_aux_lemma => kernel_rfl) trivial fun hw => ?_
      refine ⟨retd rfl, hw.fr⟩
    · rw [hg4] at hS
      have hg4o := hg4
      try simp only [decide_eq_true_eq, decide_eq_false_iff_not, beq_iff_eq, bne_iff_ne, beq_eq_false_iff_ne, bne_eq_false_iff_eq, Bool.and_eq_true, Bool.or_eq_true, Bool.and_eq_false_iff, Bool.or_eq_false_iff, Bool.not_eq_true', Bool.not_eq_false', ne_eq, Int.not_lt, Int.not_le, Bool.true_and, Bool.false_and, Bool.and_true, Bool.and_false, Bool.or_true, Bool.or_false, Bool.true_or, Bool.false_or, Bool.not_true, Bool.not_false] at hg4
      refine St.ops 2 [⟨1, 0, 0⟩, ⟨1, 0, 0⟩] [0, 11, 97, 99] [] hS fun _ => ⟨[(0, [], .int .i64 n), (11, [], .int .i64 (ordV (pagesV n))), (97, [], .bool false), (99, [], .bool (ordOk (pagesV n)))], [], [(.bool false : Value) = .bool false, (.bool false : Value) = .bool false], by as_aux_lemma => kernel_rfl, ⟨rfl, rfl, trivial⟩, fun ac wd hS => ?_⟩
      rcases Bool.eq_false_or_eq_true (ordOk (pagesV n)) with hg5 | hg5
      · rw [hg5] at hS
        have hg5o := hg5
        try simp only [decide_eq_true_eq, decide_eq_false_iff_not, beq_iff_eq, bne_iff_ne, beq_eq_false_iff_ne, bne_eq_false_iff_eq, Bool.and_eq_true, Bool.or_eq_true, Bool.and_eq_false_iff, Bool.or_eq_false_iff, Bool.not_eq_true', Bool.not_eq_false', ne_eq, Int.not_lt, Int.not_le, Bool.true_and, Bool.false_and, Bool.and_true, Bool.and_false, Bool.or_true, Bool.or_false, Bool.true_or, Bool.false_or, Bool.not_true, Bool.not_false] at hg5
        refine St.ops 1 [⟨1, 0, 0⟩] [0, 11, 97, 99, 100] [] hS fun _ => ⟨[(0, [], .int .i64 n), (11, [], .int .i64 (ordV (pagesV n))), (97, [], .bool false), (99, [], .bool true), (100, [], .int .i64 (ordV (pagesV n)))], [], [(.bool true : Value) = .bool true], by as_aux_lemma => kernel_rfl, ⟨rfl, trivial⟩, fun ac wd hS => ?_⟩
        refine St.call 1 0 hS (f := 18) (args := #[.int .i64 (ordV (pagesV n))]) (obs := [(.bool true : Value) = .bool true]) (by as_aux_lemma => kernel_rfl) ⟨rfl, trivial⟩ (by as_aux_lemma => kernel_rfl) (size_Span (ordV (pagesV n)) _ ) ?_
        rintro _ wd ⟨rfl, hF⟩
        refine ⟨.int .i64 (spanV (ordV (pagesV n))), rfl, ?_⟩
        replace hS := St.put (d := 101) (v := .int .i64 (spanV (ordV (pagesV n)))) (hS.to (hS.mem.keep0 hF)) (by decide)
        clear hF
        refine St.ops 4 [⟨1, 0, 0⟩, ⟨1, 0, 0⟩, ⟨1, 7, 0⟩, ⟨1, 0, 0⟩] [0, 11, 97, 105] [] hS fun _ => ⟨[(0, [], .int .i64 n), (11, [], .int .i64 (ordV (pagesV n))), (97, [], .bool false), (105, [], .bool (decide ((n : Int) ≤ (spanV (ordV (pagesV n))))))], [], [(.bool false : Value) = .bool false, (.bool false : Value) = .bool false, (.bool true : Value) = .bool true, (.bool true : Value) = .bool true, (.bool true : Value) = .bool true], by as_aux_lemma => kernel_rfl, ⟨rfl, rfl, rfl, rfl, rfl, trivial⟩, fun ac wd hS => ?_⟩
        rcases Bool.eq_false_or_eq_true (decide ((n : Int) ≤ (spanV (ordV (pagesV n))))) with hg6 | hg6
        · rw [hg6] at hS
          have hg6o := hg6
          try simp only [decide_eq_true_eq, decide_eq_false_iff_not, beq_iff_eq, bne_iff_ne, beq_eq_false_iff_ne, bne_eq_false_iff_eq, Bool.and_eq_true, Bool.or_eq_true, Bool.and_eq_false_iff, Bool.or_eq_false_iff, Bool.not_eq_true', Bool.not_eq_false', ne_eq, Int.not_lt, Int.not_le, Bool.true_and, Bool.false_and, Bool.and_true, Bool.and_false, Bool.or_true, Bool.or_false, Bool.true_or, Bool.false_or, Bool.not_true, Bool.not_false] at hg6
          refine St.ops 3 [⟨1, 0, 0⟩, ⟨1, 0, 0⟩, ⟨1, 0, 0⟩] [0, 11, 97, 105, 108] [] hS fun _ => ⟨[(0, [], .int .i64 n), (11, [], .int .i64 (ordV (pagesV n))), (97, [], .bool false), (105, [], .bool true), (108, [], .bool (((ordV (pagesV n)) : Int) == 0))], [], [(.bool true : Value) = .bool true, (.bool true : Value) = .bool true, (.bool true : Value) = .bool true], by as_aux_lemma => kernel_rfl, ⟨rfl, rfl, rfl, trivial⟩, fun ac wd hS => ?_⟩
          rcases Bool.eq_false_or_eq_true (((ordV (pagesV n)) : Int) == 0) with hg7 | hg7
          · rw [hg7] at hS
            have hg7o := hg7
            try simp only [decide_eq_true_eq, decide_eq_false_iff_not, beq_iff_eq, bne_iff_ne, beq_eq_false_iff_ne, bne_eq_false_iff_eq, Bool.and_eq_true, Bool.or_eq_true, Bool.and_eq_false_iff, Bool.or_eq_false_iff, Bool.not_eq_true', Bool.not_eq_false', ne_eq, Int.not_lt, Int.not_le, Bool.true_and, Bool.false_and, Bool.and_true, Bool.and_false, Bool.or_true, Bool.or_false, Bool.true_or, Bool.false_or, Bool.not_true, Bool.not_false] at hg7
            refine St.ops 9 [⟨2, 0, 0⟩, ⟨2, 0, 0⟩, ⟨2, 0, 0⟩, ⟨2, 0, 0⟩, ⟨2, 0, 0⟩, ⟨1, 7, 0⟩, ⟨1, 7, 0⟩, ⟨0, 6, 0⟩, ⟨0, 0, 0⟩] [4] [] hS fun _ => ⟨[(4, [], .bool true)], [], [(.bool false : Value) = .bool false, (.bool false : Value) = .bool false, (.bool true : Value) = .bool true, (.bool true : Value) = .bool true, (.bool true : Value) = .bool true, (.bool true : Value) = .bool (!false), (.bool true : Value) = .bool (!false), (.bool true : Value) = .bool (!false), (.bool true : Value) = .bool (!false), (.bool true : Value) = .bool (!false)], by as_aux_lemma => kernel_rfl, ⟨rfl, rfl, rfl, rfl, rfl, rfl, rfl, rfl, rfl, rfl, trivial⟩, fun ac wd hS => ?_⟩
            refine list_nil_seq ?_
            refine wp_ret ?_
            refine St.ret 0 hS (v := .bool true) (obs := []) (by as_aux_lemma => kernel_rfl) trivial fun hw => ?_
            refine ⟨retd rfl, hw.fr⟩
          · rw [hg7] at hS
            have hg7o := hg7
            try simp only [decide_eq_true_eq, decide_eq_false_iff_not, beq_iff_eq, bne_iff_ne, beq_eq_false_iff_ne, bne_eq_false_iff_eq, Bool.and_eq_true, Bool.or_eq_true, Bool.and_eq_false_iff, Bool.or_eq_false_iff, Bool.not_eq_true', Bool.not_eq_false', ne_eq, Int.not_lt, Int.not_le, Bool.true_and, Bool.false_and, Bool.and_true, Bool.and_false, Bool.or_true, Bool.or_false, Bool.true_or, Bool.false_or, Bool.not_true, Bool.not_false] at hg7
            have ew8 : (IntKind.wrap .i64 ((ordV (pagesV n)) - 1)) = ((ordV (pagesV n)) - 1) := i64_in (x := ((ordV (pagesV n)) - 1)) (by omega)
            refine St.ops 2 [⟨1, 0, 0⟩, ⟨1, 0, 0⟩] [0, 97, 105, 108, 110] [] hS fun _ => ⟨[(0, [], .int .i64 n), (97, [], .bool false), (105, [], .bool true), (108, [], .bool false), (110, [], .int .i64 (IntKind.wrap .i64 ((ordV (pagesV n)) - 1)))], [], [(.bool false : Value) = .bool false, (.bool false : Value) = .bool false], by as_aux_lemma => kernel_rfl, ⟨rfl, rfl, trivial⟩, fun ac wd hS => ?_⟩
            simp only [ew8] at hS
            refine St.call 1 0 hS (f := 18) (args := #[.int .i64 ((ordV (pagesV n)) - 1)]) (obs := [(.bool false : Value) = .bool false]) (by as_aux_lemma => kernel_rfl) ⟨rfl, trivial⟩ (by as_aux_lemma => kernel_rfl) (size_Span ((ordV (pagesV n)) - 1) _ ) ?_
            rintro _ wd ⟨rfl, hF⟩
            refine ⟨.int .i64 (spanV ((ordV (pagesV n)) - 1)), rfl, ?_⟩
            replace hS := St.put (d := 111) (v := .int .i64 (spanV ((ordV (pagesV n)) - 1))) (hS.to (hS.mem.keep0 hF)) (by decide)
            clear hF
            refine St.ops 6 [⟨1, 0, 0⟩, ⟨1, 0, 0⟩, ⟨1, 6, 0⟩, ⟨1, 7, 0⟩, ⟨0, 6, 0⟩, ⟨0, 0, 0⟩] [4] [] hS fun _ => ⟨[(4, [], .bool (decide (((spanV ((ordV (pagesV n)) - 1)) : Int) < n)))], [], [(.bool false : Value) = .bool false, (.bool false : Value) = .bool false, (.bool true : Value) = .bool true, (.bool true : Value) = .bool true, (.bool false : Value) = .bool false, (.bool false : Value) = .bool false, (.bool false : Value) = .bool false], by as_aux_lemma => kernel_rfl, ⟨rfl, rfl, rfl, rfl, rfl, rfl, rfl, trivial⟩, fun ac wd hS => ?_⟩
            refine list_nil_seq ?_
            refine wp_ret ?_
            refine St.ret 0 hS (v := .bool (decide (((spanV ((ordV (pagesV n)) - 1)) : Int) < n))) (obs := []) (by as_aux_lemma => kernel_rfl) trivial fun hw => ?_
            refine ⟨retd (vbool ?_), hw.fr⟩
            all_goals (first | rfl | (simp_all [upV]; done) | (have hq := gof hg5; simp; omega) | (exfalso; have hq := gof hg5; omega) | (exfalso; have hq := hob hg5; rcases hg4 with h | h; simp [h] at hg5; omega))
        · rw [hg6] at hS
          have hg6o := hg6
          try simp only [decide_eq_true_eq, decide_eq_false_iff_not, beq_iff_eq, bne_iff_ne, beq_eq_false_iff_ne, bne_eq_false_iff_eq, Bool.and_eq_true, Bool.or_eq_true, Bool.and_eq_false_iff, Bool.or_eq_false_iff, Bool.not_eq_true', Bool.not_eq_false', ne_eq, Int.not_lt, Int.not_le, Bool.true_and, Bool.false_and, Bool.and_true, Bool.and_false, Bool.or_true, Bool.or_false, Bool.true_or, Bool.false_or, Bool.not_true, Bool.not_false] at hg6
          refine St.ops 3 [⟨2, 0, 0⟩, ⟨2, 0, 0⟩, ⟨2, 0, 0⟩] [0, 11, 97, 105, 108] [] hS fun _ => ⟨[(0, [], .int .i64 n), (11, [], .int .i64 (ordV (pagesV n))), (97, [], .bool false), (105, [], .bool false), (108, [], undef)], [], [(.bool false : Value) = .bool (!true), (.bool false : Value) = .bool (!true), (.bool false : Value) = .bool (!true)], by as_aux_lemma => kernel_rfl, ⟨rfl, rfl, rfl, trivial⟩, fun ac wd hS => ?_⟩
          refine St.ops 9 [⟨4, 0, 0⟩, ⟨4, 0, 0⟩, ⟨4, 0, 0⟩, ⟨4, 0, 0⟩, ⟨4, 0, 0⟩, ⟨2, 0, 0⟩, ⟨1, 6, 0⟩, ⟨0, 6, 0⟩, ⟨0, 0, 0⟩] [4] [] hS fun _ => ⟨[(4, [], .bool false)], [], [(.bool false : Value) = .bool false, (.bool false : Value) = .bool false, (.bool false : Value) = .bool false, (.bool false : Value) = .bool (!true), (undef : Value) = undef, (undef : Value) = undef, (undef : Value) = undef, (undef : Value) = undef, (undef : Value) = undef], by as_aux_lemma => kernel_rfl, ⟨rfl, rfl, rfl, rfl, rfl, rfl, rfl, rfl, rfl, trivial⟩, fun ac wd hS => ?_⟩
          refine list_nil_seq ?_
          refine wp_ret ?_
          refine St.ret 0 hS (v := .bool false) (obs := []) (by as_aux_lemma => kernel_rfl) trivial fun hw => ?_
          refine ⟨retd (vbool ?_), hw.fr⟩
          all_goals (first | rfl | (simp_all [upV]; done) | (have hq := gof hg5; simp; omega) | (exfalso; have hq := gof hg5; omega) | (exfalso; have hq := hob hg5; rcases hg4 with h | h; simp [h] at hg5; omega))
      · rw [hg5] at hS
        have hg5o := hg5
        try simp only [decide_eq_true_eq, decide_eq_false_iff_not, beq_iff_eq, bne_iff_ne, beq_eq_false_iff_ne, bne_eq_false_iff_eq, Bool.and_eq_true, Bool.or_eq_true, Bool.and_eq_false_iff, Bool.or_eq_false_iff, Bool.not_eq_true', Bool.not_eq_false', ne_eq, Int.not_lt, Int.not_le, Bool.true_and, Bool.false_and, Bool.and_true, Bool.and_false, Bool.or_true, Bool.or_false, Bool.true_or, Bool.false_or, Bool.not_true, Bool.not_false] at hg5
        refine St.ops 6 [⟨2, 0, 0⟩, ⟨2, 0, 0⟩, ⟨2, 0, 0⟩, ⟨2, 0, 0⟩, ⟨1, 6, 0⟩, ⟨1, 0, 0⟩] [0, 11, 97, 105] [] hS fun _ => ⟨[(0, [], .int .i64 n), (11, [], .int .i64 (ordV (pagesV n))), (97, [], .bool false), (105, [], .bool false)], [], [(.bool false : Value) = .bool false, (.bool false : Value) = .bool false, (.bool false : Value) = .bool false, (.bool false : Value) = .bool (!true), (.bool false : Value) = .bool (!true), (.bool false : Value) = .bool (!true), (.bool false : Value) = .bool (!true)], by as_aux_lemma => kernel_rfl, ⟨rfl, rfl, rfl, rfl, rfl, rfl, rfl, trivial⟩, fun ac wd hS => ?_⟩
        refine St.ops 3 [⟨2, 0, 0⟩, ⟨2, 0, 0⟩, ⟨2, 0, 0⟩] [0, 11, 97, 105, 108] [] hS fun _ => ⟨[(0, [], .int .i64 n), (11, [], .int .i64 (ordV (pagesV n))), (97, [], .bool false), (105, [], .bool false), (108, [], undef)], [], [(.bool false : Value) = .bool (!true), (.bool false : Value) = .bool (!true), (.bool false : Value) = .bool (!true)], by as_aux_lemma => kernel_rfl, ⟨rfl, rfl, rfl, trivial⟩, fun ac wd hS => ?_⟩
        refine St.ops 9 [⟨4, 0, 0⟩, ⟨4, 0, 0⟩, ⟨4, 0, 0⟩, ⟨4, 0, 0⟩, ⟨4, 0, 0⟩, ⟨2, 0, 0⟩, ⟨1, 6, 0⟩, ⟨0, 6, 0⟩, ⟨0, 0, 0⟩] [4] [] hS fun _ => ⟨[(4, [], .bool false)], [], [(.bool false : Value) = .bool false, (.bool false : Value) = .bool false, (.bool false : Value) = .bool false, (.bool false : Value) = .bool (!true), (undef : Value) = undef, (undef : Value) = undef, (undef : Value) = undef, (undef : Value) = undef, (undef : Value) = undef], by as_aux_lemma => kernel_rfl, ⟨rfl, rfl, rfl, rfl, rfl, rfl, rfl, rfl, rfl, trivial⟩, fun ac wd hS => ?_⟩
        refine list_nil_seq ?_
        refine wp_ret ?_
        refine St.ret 0 hS (v := .bool false) (obs := []) (by as_aux_lemma => kernel_rfl) trivial fun hw => ?_
        refine ⟨retd (vbool ?_), hw.fr⟩
        all_goals (first | rfl | (simp_all [upV]; done) | (have hq := gof hg5; simp; omega) | (exfalso; have hq := gof hg5; omega) | (exfalso; have hq := hob hg5; rcases hg4 with h | h; simp [h] at hg5; omega))

end Go.Proofs.Ytdjdgdkkhadkoaa.K
