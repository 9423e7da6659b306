import Derived.Test.YtdjdgdkkhadkoaaDoorBtW1
import Derived.Test.YtdjdgdkkhadkoaaDoorBtW2
import Derived.Test.YtdjdgdkkhadkoaaDoorBtW3
import Derived.Test.YtdjdgdkkhadkoaaDoorBtW4
import Derived.Test.YtdjdgdkkhadkoaaDoorBtW5
import Derived.Test.YtdjdgdkkhadkoaaDoorRx
import Derived.Test.YtdjdgdkkhadkoaaDoorBt
import Derived.Test.YtdjdgdkkhadkoaaDoorKg
import Derived.Test.YtdjdgdkkhadkoaaDoorProg
namespace Go.Proofs.YtdjdgdkkhadkoaaDoor.K
set_option linter.unusedVariables false
set_option linter.unusedSimpArgs false

set_option maxRecDepth 100000 in
set_option maxHeartbeats 1000000 in
theorem ref02_Within_nil (f : Int) (k : Int) (w : World) :
    Calls Tryd.prog 37 #[.slice none 0 0, .int .i64 f, .int .i64 k] w fun e w' => e = .returned (.bool (wth 0 f k)) ∧ Fr w w' [] [] := by
  refine enter (args := [.slice none 0 0, .int .i64 f, .int .i64 k]) (A := []) Tryd.func37 rfl 27 rfl [] (WS.start (AllAr.nil w)) fun ac hS => ?_
  refine St.region_seq [⟨0, 0, 0⟩] [0, 1, 2] [] hS fun _ => ⟨[(0, [], .slice none 0 0), (1, [], .int .i64 f), (2, [], .int .i64 k)], [], [], by as_aux_lemma => kernel_rfl, trivial, fun ac wd hS => ?_⟩
  refine wp_region_seq ?_
  refine St.ops 13 [⟨0, 0, 0⟩, ⟨0, 0, 0⟩, ⟨0, 0, 0⟩, ⟨3, 0, 0⟩, ⟨3, 0, 0⟩, ⟨0, 8, 0⟩, ⟨0, 0, 0⟩, ⟨3, 0, 0⟩, ⟨3, 0, 0⟩, ⟨3, 0, 0⟩, ⟨3, 0, 0⟩, ⟨0, 8, 0⟩, ⟨0, 0, 0⟩] [0, 1, 2, 19] [] hS fun _ => ⟨[(0, [], .slice none 0 0), (1, [], .int .i64 f), (2, [], .int .i64 k), (19, [], .bool (((decide ((0 : Int) ≤ f)) && (decide ((0 : Int) ≤ k))) && (decide ((k : Int) ≤ 0))))], [], [], by as_aux_lemma => kernel_rfl, trivial, fun ac wd hS => ?_⟩
  rcases Bool.eq_false_or_eq_true (((decide ((0 : Int) ≤ f)) && (decide ((0 : Int) ≤ k))) && (decide ((k : Int) ≤ 0))) with hg1 | hg1
  · rw [hg1] at hS
    have hg1o := hg1
    try simp only [decide_eq_true_eq, decide_eq_false_iff_not, beq_iff_eq, bne_iff_ne, beq_eq_false_iff_ne, bne_eq_false_iff_eq, Bool.and_eq_true, Bool.or_eq_true, Bool.and_eq_false_iff, Bool.or_eq_false_iff, Bool.not_eq_true', Bool.not_eq_false', ne_eq, Int.not_lt, Int.not_le, Bool.true_and, Bool.false_and, Bool.and_true, Bool.and_false, Bool.or_true, Bool.or_false, Bool.true_or, Bool.false_or, Bool.not_true, Bool.not_false] at hg1
    have ew2 : (IntKind.wrap .i64 (0 - k)) = (0 - k) := i64_in (x := (0 - k)) (by omega)
    refine St.ops 8 [⟨1, 0, 0⟩, ⟨1, 0, 0⟩, ⟨1, 0, 0⟩, ⟨1, 0, 0⟩, ⟨1, 0, 0⟩, ⟨1, 0, 0⟩, ⟨0, 7, 0⟩, ⟨0, 0, 0⟩] [6] [] hS fun _ => ⟨[(6, [], .bool (decide ((f : Int) ≤ (IntKind.wrap .i64 (0 - k)))))], [], [(.bool true : Value) = .bool true, (.bool true : Value) = .bool true, (.bool true : Value) = .bool true, (.bool true : Value) = .bool true, (.bool true : Value) = .bool true, (.bool true : Value) = .bool true, (.bool true : Value) = .bool true], by as_aux_lemma => kernel_rfl, ⟨rfl, rfl, rfl, rfl, rfl, rfl, rfl, trivial⟩, fun ac wd hS => ?_⟩
    simp only [ew2] at hS
    refine list_nil_seq ?_
    refine wp_ret ?_
    refine St.ret 0 hS (v := .bool (decide ((f : Int) ≤ (0 - k)))) (obs := []) (by as_aux_lemma => kernel_rfl) trivial fun hw => ?_
    refine ⟨retd (vbool ?_), hw.fr⟩
    all_goals (first | rfl | (simp [wth]; done) | (simp [wth]; omega) | (simp_all [wth]; done) | (simp_all [wth]; omega))
  · rw [hg1] at hS
    have hg1o := hg1
    try simp only [decide_eq_true_eq, decide_eq_false_iff_not, beq_iff_eq, bne_iff_ne, beq_eq_false_iff_ne, bne_eq_false_iff_eq, Bool.and_eq_true, Bool.or_eq_true, Bool.and_eq_false_iff, Bool.or_eq_false_iff, Bool.not_eq_true', Bool.not_eq_false', ne_eq, Int.not_lt, Int.not_le, Bool.true_and, Bool.false_and, Bool.and_true, Bool.and_false, Bool.or_true, Bool.or_false, Bool.true_or, Bool.false_or, Bool.not_true, Bool.not_false] at hg1
    refine St.ops 8 [⟨2, 0, 0⟩, ⟨2, 0, 0⟩, ⟨2, 0, 0⟩, ⟨2, 0, 0⟩, ⟨2, 0, 0⟩, ⟨2, 0, 0⟩, ⟨0, 6, 0⟩, ⟨0, 0, 0⟩] [6] [] hS fun _ => ⟨[(6, [], .bool false)], [], [(.bool false : Value) = .bool false, (.bool false : Value) = .bool (!true), (.bool false : Value) = .bool (!true), (.bool false : Value) = .bool (!true), (.bool false : Value) = .bool (!true), (.bool false : Value) = .bool (!true), (.bool false : Value) = .bool (!true)], by as_aux_lemma => kernel_rfl, ⟨rfl, rfl, rfl, rfl, rfl, rfl, rfl, trivial⟩, fun ac wd hS => ?_⟩
    refine list_nil_seq ?_
    refine wp_ret ?_
    refine St.ret 0 hS (v := .bool false) (obs := []) (by as_aux_lemma => kernel_rfl) trivial fun hw => ?_
    refine ⟨retd (vbool ?_), hw.fr⟩
    all_goals (first | rfl | (simp [wth]; done) | (simp [wth]; omega) | (simp_all [wth]; done) | (simp_all [wth]; omega))

set_option maxRecDepth 100000 in
set_option maxHeartbeats 1000000 in
theorem ref02_Put_nil (f : Int) (k : Int) (v : Bool) (w : World) :
    Calls Tryd.prog 23 #[.slice none 0 0, .int .i64 f, .int .i64 k, .bool v] w fun e w' => ∃ (q2 : Value) (e2 : Int), e = .returned (.tuple #[q2, .int .i64 e2]) ∧ Fr w w' [] [] := by
  refine enter (args := [.slice none 0 0, .int .i64 f, .int .i64 k, .bool v]) (A := []) Tryd.func23 rfl 49 rfl [] (WS.start (AllAr.nil w)) fun ac hS => ?_
  refine St.region_seq [⟨0, 0, 0⟩, ⟨0, 0, 0⟩] [0, 1, 2, 3] [] hS fun _ => ⟨[(0, [], .slice none 0 0), (1, [], .int .i64 f), (2, [], .int .i64 k), (3, [], .bool v)], [], [], by as_aux_lemma => kernel_rfl, trivial, fun ac wd hS => ?_⟩
  refine wp_seq ?_
  refine wp_region_seq ?_
  refine St.ops 3 [⟨0, 0, 0⟩, ⟨0, 0, 0⟩, ⟨0, 0, 0⟩] [0, 1, 2, 3, 13, 14, 15] [] hS fun _ => ⟨[(0, [], .slice none 0 0), (1, [], .int .i64 f), (2, [], .int .i64 k), (3, [], .bool v), (13, [], .slice none 0 0), (14, [], .int .i64 f), (15, [], .int .i64 k)], [], [], by as_aux_lemma => kernel_rfl, trivial, fun ac wd hS => ?_⟩
  refine St.call 0 0 hS (f := 37) (args := #[.slice none 0 0, .int .i64 f, .int .i64 k]) (obs := []) (by as_aux_lemma => kernel_rfl) trivial (by as_aux_lemma => kernel_rfl) (ref02_Within_nil f k _ ) ?_
  rintro _ wd ⟨rfl, hF⟩
  refine ⟨.bool (wth 0 f k), rfl, ?_⟩
  replace hS := St.put (d := 16) (v := .bool (wth 0 f k)) (hS.to (hS.mem.keep0 hF)) (by decide)
  clear hF
  refine St.ops 1 [⟨0, 0, 0⟩] [0, 1, 2, 3, 17] [] hS fun _ => ⟨[(0, [], .slice none 0 0), (1, [], .int .i64 f), (2, [], .int .i64 k), (3, [], .bool v), (17, [], .bool (!(wth 0 f k)))], [], [], by as_aux_lemma => kernel_rfl, trivial, fun ac wd hS => ?_⟩
  refine list_nil_seq ?_
  refine St.cond (b := (!(wth 0 f k))) hS (by as_aux_lemma => kernel_rfl) (fun hb1 => ?_) (fun hb1 => ?_)
  · have hb1o := hb1
    try simp only [decide_eq_true_eq, decide_eq_false_iff_not, beq_iff_eq, bne_iff_ne, beq_eq_false_iff_ne, bne_eq_false_iff_eq, Bool.and_eq_true, Bool.or_eq_true, Bool.and_eq_false_iff, Bool.or_eq_false_iff, Bool.not_eq_true', Bool.not_eq_false', ne_eq, Int.not_lt, Int.not_le, Bool.true_and, Bool.false_and, Bool.and_true, Bool.and_false, Bool.or_true, Bool.or_false, Bool.true_or, Bool.false_or, Bool.not_true, Bool.not_false] at hb1
    refine St.region_seq [⟨0, 0, 0⟩, ⟨0, 0, 0⟩, ⟨0, 0, 0⟩] [8, 9] [] hS fun _ => ⟨[(8, [], .slice none 0 0), (9, [], .int .i64 3)], [], [], by as_aux_lemma => kernel_rfl, trivial, fun ac wd hS => ?_⟩
    refine wp_ret ?_
    refine pop_then_ret ?_
    refine St.ret 0 hS (v := .tuple #[.slice none 0 0, .int .i64 3]) (obs := []) (by as_aux_lemma => kernel_rfl) trivial fun hw => ?_
    exact ⟨.slice none 0 0, 3, retd rfl, hw.fr⟩
  · have hb1o := hb1
    try simp only [decide_eq_true_eq, decide_eq_false_iff_not, beq_iff_eq, bne_iff_ne, beq_eq_false_iff_ne, bne_eq_false_iff_eq, Bool.and_eq_true, Bool.or_eq_true, Bool.and_eq_false_iff, Bool.or_eq_false_iff, Bool.not_eq_true', Bool.not_eq_false', ne_eq, Int.not_lt, Int.not_le, Bool.true_and, Bool.false_and, Bool.and_true, Bool.and_false, Bool.or_true, Bool.or_false, Bool.true_or, Bool.false_or, Bool.not_true, Bool.not_false] at hb1
    refine wp_skip ?_
    refine pop_then ?_
    refine St.region_seq [⟨0, 0, 0⟩, ⟨0, 0, 0⟩, ⟨0, 9, 0⟩, ⟨0, 0, 0⟩] [0, 1, 2, 3, 10] [0] hS fun ν5 => ⟨[(0, [], .slice none 0 0), (1, [], .int .i64 f), (2, [], .int .i64 k), (3, [], .bool v), (10, [], .slice (some ⟨(ν5 0), 0, none⟩) (Int.toNat 0) (Int.toNat 0))], [((ν5 0), .row 4 (Int.toNat 0) (Int.toNat 0) (fun _ => .bool false))], [(0 : Int) = 0, (0 : Int) ≤ 0 ∧ (0 : Int) ≤ 2 ^ 32 ∧ 1 ≤ 64], by as_aux_lemma => kernel_rfl, ⟨(by first | omega | (intro _; exact ⟨rfl, trivial⟩) | (simp; omega) | (simp_all; done) | (simp_all; omega)), (by first | omega | (intro _; exact ⟨rfl, trivial⟩) | (simp; omega) | (simp_all; done) | (simp_all; omega)), trivial⟩, fun ac wd hS => ?_⟩
    refine wp_seq ?_
    refine St.region_seq [⟨0, 0, 0⟩, ⟨0, 0, 0⟩, ⟨0, 0, 0⟩] [1, 2, 3, 10, 22, 23, 24] [0] hS fun _ => ⟨[(1, [], .int .i64 f), (2, [], .int .i64 k), (3, [], .bool v), (10, [], .slice (some ⟨(ν5 0), 0, none⟩) (Int.toNat 0) (Int.toNat 0)), (22, [], .slice none 0 0), (23, [], .int .i64 0), (24, [], .int .i64 0)], [((ν5 0), .row 4 (Int.toNat 0) (Int.toNat 0) (fun _ => .bool false))], [], by as_aux_lemma => kernel_rfl, trivial, fun ac wd hS => ?_⟩
    refine wp_block ?_
    refine St.loop (σ := Int) (fun (x : Int) => match x with | x24 => [(1, [], .int .i64 f), (2, [], .int .i64 k), (3, [], .bool v), (10, [], .slice (some ⟨(ν5 0), 0, none⟩) (Int.toNat 0) (Int.toNat 0)), (22, [], .slice none 0 0), (23, [], .int .i64 0), (24, [], .int .i64 x24)]) (fun (x : Int) => match x with | x24 => [((ν5 0), .row 4 (Int.toNat 0) (Int.toNat 0) (fun _ => .bool false))]) (fun (x : Int) => match x with | x24 => []) (fun (x : Int) => match x with | x24 => (x24 = 0)) (fun (x : Int) => match x with | x24 => 0) 0 (by rfl) hS ?_
    clear hS
    rintro x24 i0 ac wd hS
    replace hS : St _ 49 [(1, [], .int .i64 f), (2, [], .int .i64 k), (3, [], .bool v), (10, [], .slice (some ⟨(ν5 0), 0, none⟩) (Int.toNat 0) (Int.toNat 0)), (22, [], .slice none 0 0), (23, [], .int .i64 0), (24, [], .int .i64 x24)] [((ν5 0), .row 4 (Int.toNat 0) (Int.toNat 0) (fun _ => .bool false))] [] ac wd := hS
    replace i0 : x24 = 0 := i0
    refine St.region_seq [⟨0, 0, 0⟩] [1, 2, 3, 10, 22, 23, 24, 25] [0] hS fun _ => ⟨[(1, [], .int .i64 f), (2, [], .int .i64 k), (3, [], .bool v), (10, [], .slice (some ⟨(ν5 0), 0, none⟩) (Int.toNat 0) (Int.toNat 0)), (22, [], .slice none 0 0), (23, [], .int .i64 0), (24, [], .int .i64 x24), (25, [], .bool (decide ((x24 : Int) < 0)))], [((ν5 0), .row 4 (Int.toNat 0) (Int.toNat 0) (fun _ => .bool false))], [], by as_aux_lemma => kernel_rfl, trivial, fun ac wd hS => ?_⟩
    refine wp_seq ?_
    refine St.cond (b := (decide ((x24 : Int) < 0))) hS (by as_aux_lemma => kernel_rfl) (fun h => absurd h (by simp; omega)) (fun _ => ?_)
    refine wp_exit ?_
    refine pop_then_exit ?_
    refine pop_then_exit ?_
    refine pop_block_hit ?_
    refine pop_then ?_
    refine St.region_seq [⟨0, 0, 0⟩, ⟨0, 0, 0⟩, ⟨0, 0, 0⟩] [8, 9] [0] hS fun _ => ⟨[(8, [], .slice (some ⟨(ν5 0), 0, none⟩) (Int.toNat 0) (Int.toNat 0)), (9, [], .int .i64 0)], [((ν5 0), .row 4 (Int.toNat 0) (Int.toNat 0) (fun _ => .bool false))], [], by as_aux_lemma => kernel_rfl, trivial, fun ac wd hS => ?_⟩
    refine wp_ret ?_
    refine St.ret 0 hS (v := .tuple #[.slice (some ⟨(ν5 0), 0, none⟩) (Int.toNat 0) (Int.toNat 0), .int .i64 0]) (obs := []) (by as_aux_lemma => kernel_rfl) trivial fun hw => ?_
    exact ⟨.slice (some ⟨(ν5 0), 0, none⟩) (Int.toNat 0) (Int.toNat 0), 0, retd rfl, hw.fr⟩

set_option maxRecDepth 100000 in
set_option maxHeartbeats 1000000 in
theorem law02_done_nil (g : Nat) (o : Nat) (c : Nat) (nw : Nat) (ws : Nat → Nat) (n : Nat) (v : Bool) (f : Int) (k : Int) (p : Nat → Bool) (w : World) (hh0 : HE.holds w g (.fn o (o + nw) (u64s ws o))) (hW : Words ws nw n p) (hn : n ≤ 1048576) :
    Calls Tryd.prog 9 #[.agg #[.int .i64 ((n : Nat) : Int), .slice (some ⟨g, o, none⟩) nw c], .slice none 0 0, .agg #[.bool v, .int .i64 f, .int .i64 k]] w fun e w' => ∃ (g2 : Nat) (o2 : Nat) (c2 : Nat) (ws2 : Nat → Nat) (q2 : Value) (b2 : Bool), e = .returned (.tuple #[.agg #[.int .i64 ((n : Nat) : Int), .slice (some ⟨g2, o2, none⟩) nw c2], q2, .bool b2]) ∧ Words ws2 nw n (trn p n f k v) ∧ (g2 = g ∨ w.heap.size ≤ g2) ∧ HE.holds w' g2 (.fn o2 (o2 + nw) (u64s ws2 o2)) ∧ Fr w w' [] [] := by
  refine enter (args := [.agg #[.int .i64 ((n : Nat) : Int), .slice (some ⟨g, o, none⟩) nw c], .slice none 0 0, .agg #[.bool v, .int .i64 f, .int .i64 k]]) (A := []) Tryd.func9 rfl 47 rfl [(g, .fn o (o + nw) (u64s ws o))] (WS.startL ⟨⟨rfl, hh0⟩, trivial⟩) fun ac hS => ?_
  refine St.region_seq [⟨0, 0, 0⟩, ⟨0, 0, 0⟩, ⟨0, 0, 0⟩, ⟨0, 0, 0⟩, ⟨0, 0, 0⟩] [1, 3, 5, 6] [0, 1, 2, 3] hS fun ν1 => ⟨[(1, [], .slice none 0 0), (3, [], .pointer (some ⟨(ν1 0), 0, none⟩)), (5, [], .pointer (some ⟨(ν1 1), 0, none⟩)), (6, [], .pointer (some ⟨(ν1 2), 0, none⟩))], [(g, .fn o (o + nw) (u64s ws o)), ((ν1 0), .cells [.int .i64 ((n : Nat) : Int), .slice (some ⟨g, o, none⟩) nw c] 26), ((ν1 1), .cells [.bool v, .int .i64 f, .int .i64 k] 29), ((ν1 2), .cells [.int .i64 0, .slice none 0 0] 26)], [], by as_aux_lemma => kernel_rfl, trivial, fun ac wd hS => ?_⟩
  refine St.region_seq [⟨0, 0, 0⟩] [1, 3, 5, 6] [0, 1, 2, 3] hS fun _ => ⟨[(1, [], .slice none 0 0), (3, [], .pointer (some ⟨(ν1 0), 0, none⟩)), (5, [], .pointer (some ⟨(ν1 1), 0, none⟩)), (6, [], .pointer (some ⟨(ν1 2), 0, none⟩))], [(g, .fn o (o + nw) (u64s ws o)), ((ν1 0), .cells [.int .i64 ((n : Nat) : Int), .slice (some ⟨g, o, none⟩) nw c] 26), ((ν1 1), .cells [.bool v, .int .i64 f, .int .i64 k] 29), ((ν1 2), .cells [.int .i64 0, .slice none 0 0] 26)], [], by as_aux_lemma => kernel_rfl, trivial, fun ac wd hS => ?_⟩
  refine wp_seq ?_
  refine St.region_seq [⟨0, 0, 0⟩, ⟨0, 0, 2⟩] [1, 3, 5, 6, 12] [0, 1, 2, 3] hS fun _ => ⟨[(1, [], .slice none 0 0), (3, [], .pointer (some ⟨(ν1 0), 0, none⟩)), (5, [], .pointer (some ⟨(ν1 1), 0, none⟩)), (6, [], .pointer (some ⟨(ν1 2), 0, none⟩)), (12, [], .bool v)], [(g, .fn o (o + nw) (u64s ws o)), ((ν1 0), .cells [.int .i64 ((n : Nat) : Int), .slice (some ⟨g, o, none⟩) nw c] 26), ((ν1 1), .cells [.bool v, .int .i64 f, .int .i64 k] 29), ((ν1 2), .cells [.int .i64 0, .slice none 0 0] 26)], [(ν1 1) = (ν1 1)], by as_aux_lemma => kernel_rfl, ⟨rfl, trivial⟩, fun ac wd hS => ?_⟩
  refine St.cond (b := v) hS (by as_aux_lemma => kernel_rfl) (fun hb1 => ?_) (fun hb1 => ?_)
  · have hb1o := hb1
    try simp only [decide_eq_true_eq, decide_eq_false_iff_not, beq_iff_eq, bne_iff_ne, beq_eq_false_iff_ne, bne_eq_false_iff_eq, Bool.and_eq_true, Bool.or_eq_true, Bool.and_eq_false_iff, Bool.or_eq_false_iff, Bool.not_eq_true', Bool.not_eq_false', ne_eq, Int.not_lt, Int.not_le, Bool.true_and, Bool.false_and, Bool.and_true, Bool.and_false, Bool.or_true, Bool.or_false, Bool.true_or, Bool.false_or, Bool.not_true, Bool.not_false] at hb1
    refine wp_region_lit ?_
    refine St.ops 5 [⟨0, 0, 1⟩, ⟨0, 0, 0⟩, ⟨0, 0, 2⟩, ⟨0, 0, 0⟩, ⟨0, 0, 2⟩] [1, 3, 5, 6, 14, 16, 18] [0, 1, 2, 3] hS fun _ => ⟨[(1, [], .slice none 0 0), (3, [], .pointer (some ⟨(ν1 0), 0, none⟩)), (5, [], .pointer (some ⟨(ν1 1), 0, none⟩)), (6, [], .pointer (some ⟨(ν1 2), 0, none⟩)), (14, [], .agg #[.int .i64 ((n : Nat) : Int), .slice (some ⟨g, o, none⟩) nw c]), (16, [], .int .i64 f), (18, [], .int .i64 k)], [(g, .fn o (o + nw) (u64s ws o)), ((ν1 0), .cells [.int .i64 ((n : Nat) : Int), .slice (some ⟨g, o, none⟩) nw c] 26), ((ν1 1), .cells [.bool v, .int .i64 f, .int .i64 k] 29), ((ν1 2), .cells [.int .i64 0, .slice none 0 0] 26)], [(ν1 1) = (ν1 1), (ν1 1) = (ν1 1), (ν1 0) = (ν1 0), (ν1 0) = (ν1 0)], by as_aux_lemma => kernel_rfl, ⟨rfl, rfl, rfl, rfl, trivial⟩, fun ac wd hS => ?_⟩
    refine St.call 0 0 hS (f := 13) (args := #[.agg #[.int .i64 ((n : Nat) : Int), .slice (some ⟨g, o, none⟩) nw c], .int .i64 f, .int .i64 k]) (obs := []) (by as_aux_lemma => kernel_rfl) trivial (by as_aux_lemma => kernel_rfl) (bits_With g o c nw _ n f k p _ (hS.mem.heap _ (List.mem_of_getElem? (i := 0) rfl)) (by first | assumption | omega | (simp_all; done) | (simp_all; omega)) (by first | assumption | omega | (simp_all; done) | (simp_all; omega))) ?_
    rintro _ wd ⟨g22, o23, c24, ws25, rfl, hW26, hog, hoh, hF⟩
    have ho7 : g22 = g ∨ w.heap.size ≤ g22 := by rcases hog with hx | hx; rw [hx]; exact (.inl rfl); exact .inr (Nat.le_trans hS.mem.fr.size hx)
    refine ⟨.tuple #[.agg #[.int .i64 ((n : Nat) : Int), .slice (some ⟨g22, o23, none⟩) nw c24], .int .i64 (trnE n f k)], rfl, ?_⟩
    replace hS := St.put (d := 19) (v := .tuple #[.agg #[.int .i64 ((n : Nat) : Int), .slice (some ⟨g22, o23, none⟩) nw c24], .int .i64 (trnE n f k)]) (hS.to (hS.mem.outF hF 0 rfl rfl hog hoh)) (by decide)
    clear hF
    refine St.ops 5 [⟨0, 0, 0⟩, ⟨0, 0, 0⟩, ⟨0, 0, 0⟩, ⟨0, 0, 1⟩, ⟨0, 0, 0⟩] [1, 3, 5, 6, 9] [1, 2, 3, 4] hS fun _ => ⟨[(1, [], .slice none 0 0), (3, [], .pointer (some ⟨(ν1 0), 0, none⟩)), (5, [], .pointer (some ⟨(ν1 1), 0, none⟩)), (6, [], .pointer (some ⟨(ν1 2), 0, none⟩)), (9, [], .int .i64 (trnE n f k))], [((ν1 0), .cells [.int .i64 ((n : Nat) : Int), .slice (some ⟨g22, o23, none⟩) nw c24] 26), ((ν1 1), .cells [.bool v, .int .i64 f, .int .i64 k] 29), ((ν1 2), .cells [.int .i64 0, .slice none 0 0] 26), (g22, .fn o23 (o23 + nw) (u64s ws25 o23))], [(ν1 0) = (ν1 0), (ν1 0) = (ν1 0)], by as_aux_lemma => kernel_rfl, ⟨rfl, rfl, trivial⟩, fun ac wd hS => ?_⟩
    refine list_nil ?_
    refine pop_then ?_
    refine wp_region_seq ?_
    refine St.ops 7 [⟨0, 0, 0⟩, ⟨0, 0, 0⟩, ⟨0, 0, 1⟩, ⟨0, 0, 0⟩, ⟨0, 0, 1⟩, ⟨0, 0, 0⟩, ⟨0, 0, 1⟩] [1, 3, 6, 9, 32, 34, 36, 38] [0, 2, 3] hS fun _ => ⟨[(1, [], .slice none 0 0), (3, [], .pointer (some ⟨(ν1 0), 0, none⟩)), (6, [], .pointer (some ⟨(ν1 2), 0, none⟩)), (9, [], .int .i64 (trnE n f k)), (32, [], .slice none 0 0), (34, [], .int .i64 f), (36, [], .int .i64 k), (38, [], .bool v)], [((ν1 0), .cells [.int .i64 ((n : Nat) : Int), .slice (some ⟨g22, o23, none⟩) nw c24] 26), ((ν1 2), .cells [.int .i64 0, .slice none 0 0] 26), (g22, .fn o23 (o23 + nw) (u64s ws25 o23))], [(ν1 1) = (ν1 1), (ν1 1) = (ν1 1), (ν1 1) = (ν1 1)], by as_aux_lemma => kernel_rfl, ⟨rfl, rfl, rfl, trivial⟩, fun ac wd hS => ?_⟩
    refine St.call 0 0 hS (f := 23) (args := #[.slice none 0 0, .int .i64 f, .int .i64 k, .bool v]) (obs := []) (by as_aux_lemma => kernel_rfl) trivial (by as_aux_lemma => kernel_rfl) (ref02_Put_nil f k v _ ) ?_
    rintro _ wd ⟨q28, e29, rfl, hF⟩
    refine ⟨.tuple #[q28, .int .i64 e29], rfl, ?_⟩
    replace hS := St.put (d := 39) (v := .tuple #[q28, .int .i64 e29]) (hS.to (hS.mem.keep0 hF)) (by decide)
    clear hF
    refine St.ops 5 [⟨0, 0, 0⟩, ⟨0, 0, 0⟩, ⟨0, 0, 0⟩, ⟨0, 0, 0⟩, ⟨0, 0, 0⟩] [1, 3, 6, 9, 10] [0, 1, 2] hS fun _ => ⟨[(1, [], q28), (3, [], .pointer (some ⟨(ν1 0), 0, none⟩)), (6, [], .pointer (some ⟨(ν1 2), 0, none⟩)), (9, [], .int .i64 (trnE n f k)), (10, [], .int .i64 e29)], [((ν1 0), .cells [.int .i64 ((n : Nat) : Int), .slice (some ⟨g22, o23, none⟩) nw c24] 26), ((ν1 2), .cells [.int .i64 0, .slice none 0 0] 26), (g22, .fn o23 (o23 + nw) (u64s ws25 o23))], [], by as_aux_lemma => kernel_rfl, trivial, fun ac wd hS => ?_⟩
    refine list_nil_seq ?_
    refine St.region_seq [⟨0, 0, 0⟩, ⟨0, 0, 0⟩, ⟨0, 0, 0⟩, ⟨0, 0, 0⟩, ⟨0, 0, 0⟩, ⟨0, 0, 1⟩, ⟨0, 0, 0⟩, ⟨0, 0, 0⟩] [6, 7, 8] [1, 2] hS fun _ => ⟨[(6, [], .pointer (some ⟨(ν1 2), 0, none⟩)), (7, [], q28), (8, [], .bool (((trnE n f k) : Int) == e29))], [((ν1 2), .cells [.int .i64 ((n : Nat) : Int), .slice (some ⟨g22, o23, none⟩) nw c24] 26), (g22, .fn o23 (o23 + nw) (u64s ws25 o23))], [(ν1 2) = (ν1 2), (ν1 2) = (ν1 2), (ν1 0) = (ν1 0), (ν1 0) = (ν1 0)], by as_aux_lemma => kernel_rfl, ⟨rfl, rfl, rfl, rfl, trivial⟩, fun ac wd hS => ?_⟩
    refine wp_ret ?_
    refine St.ret 0 hS (v := .tuple #[.agg #[.int .i64 ((n : Nat) : Int), .slice (some ⟨g22, o23, none⟩) nw c24], q28, .bool (((trnE n f k) : Int) == e29)]) (obs := [(ν1 2) = (ν1 2), (ν1 2) = (ν1 2)]) (by as_aux_lemma => kernel_rfl) ⟨rfl, rfl, trivial⟩ fun hw => ?_
    refine ⟨g22, o23, c24, ws25, q28, ((trnE n f k) : Int) == e29, retd rfl, ?_, ho7, (hw.heap _ (List.mem_of_getElem? (i := 1) rfl)), hw.fr⟩
    all_goals (first | rfl | (simp_all; done))
  · have hb1o := hb1
    try simp only [decide_eq_true_eq, decide_eq_false_iff_not, beq_iff_eq, bne_iff_ne, beq_eq_false_iff_ne, bne_eq_false_iff_eq, Bool.and_eq_true, Bool.or_eq_true, Bool.and_eq_false_iff, Bool.or_eq_false_iff, Bool.not_eq_true', Bool.not_eq_false', ne_eq, Int.not_lt, Int.not_le, Bool.true_and, Bool.false_and, Bool.and_true, Bool.and_false, Bool.or_true, Bool.or_false, Bool.true_or, Bool.false_or, Bool.not_true, Bool.not_false] at hb1
    refine wp_region_lit ?_
    refine St.ops 5 [⟨0, 0, 1⟩, ⟨0, 0, 0⟩, ⟨0, 0, 2⟩, ⟨0, 0, 0⟩, ⟨0, 0, 2⟩] [1, 3, 5, 6, 23, 25, 27] [0, 1, 2, 3] hS fun _ => ⟨[(1, [], .slice none 0 0), (3, [], .pointer (some ⟨(ν1 0), 0, none⟩)), (5, [], .pointer (some ⟨(ν1 1), 0, none⟩)), (6, [], .pointer (some ⟨(ν1 2), 0, none⟩)), (23, [], .agg #[.int .i64 ((n : Nat) : Int), .slice (some ⟨g, o, none⟩) nw c]), (25, [], .int .i64 f), (27, [], .int .i64 k)], [(g, .fn o (o + nw) (u64s ws o)), ((ν1 0), .cells [.int .i64 ((n : Nat) : Int), .slice (some ⟨g, o, none⟩) nw c] 26), ((ν1 1), .cells [.bool v, .int .i64 f, .int .i64 k] 29), ((ν1 2), .cells [.int .i64 0, .slice none 0 0] 26)], [(ν1 1) = (ν1 1), (ν1 1) = (ν1 1), (ν1 0) = (ν1 0), (ν1 0) = (ν1 0)], by as_aux_lemma => kernel_rfl, ⟨rfl, rfl, rfl, rfl, trivial⟩, fun ac wd hS => ?_⟩
    refine St.call 0 0 hS (f := 15) (args := #[.agg #[.int .i64 ((n : Nat) : Int), .slice (some ⟨g, o, none⟩) nw c], .int .i64 f, .int .i64 k]) (obs := []) (by as_aux_lemma => kernel_rfl) trivial (by as_aux_lemma => kernel_rfl) (bits_Without g o c nw _ n f k p _ (hS.mem.heap _ (List.mem_of_getElem? (i := 0) rfl)) (by first | assumption | omega | (simp_all; done) | (simp_all; omega)) (by first | assumption | omega | (simp_all; done) | (simp_all; omega))) ?_
    rintro _ wd ⟨g210, o211, c212, ws213, rfl, hW214, hog, hoh, hF⟩
    have ho15 : g210 = g ∨ w.heap.size ≤ g210 := by rcases hog with hx | hx; rw [hx]; exact (.inl rfl); exact .inr (Nat.le_trans hS.mem.fr.size hx)
    refine ⟨.tuple #[.agg #[.int .i64 ((n : Nat) : Int), .slice (some ⟨g210, o211, none⟩) nw c212], .int .i64 (trnE n f k)], rfl, ?_⟩
    replace hS := St.put (d := 28) (v := .tuple #[.agg #[.int .i64 ((n : Nat) : Int), .slice (some ⟨g210, o211, none⟩) nw c212], .int .i64 (trnE n f k)]) (hS.to (hS.mem.outF hF 0 rfl rfl hog hoh)) (by decide)
    clear hF
    refine St.ops 5 [⟨0, 0, 0⟩, ⟨0, 0, 0⟩, ⟨0, 0, 0⟩, ⟨0, 0, 1⟩, ⟨0, 0, 0⟩] [1, 3, 5, 6, 9] [1, 2, 3, 4] hS fun _ => ⟨[(1, [], .slice none 0 0), (3, [], .pointer (some ⟨(ν1 0), 0, none⟩)), (5, [], .pointer (some ⟨(ν1 1), 0, none⟩)), (6, [], .pointer (some ⟨(ν1 2), 0, none⟩)), (9, [], .int .i64 (trnE n f k))], [((ν1 0), .cells [.int .i64 ((n : Nat) : Int), .slice (some ⟨g210, o211, none⟩) nw c212] 26), ((ν1 1), .cells [.bool v, .int .i64 f, .int .i64 k] 29), ((ν1 2), .cells [.int .i64 0, .slice none 0 0] 26), (g210, .fn o211 (o211 + nw) (u64s ws213 o211))], [(ν1 0) = (ν1 0), (ν1 0) = (ν1 0)], by as_aux_lemma => kernel_rfl, ⟨rfl, rfl, trivial⟩, fun ac wd hS => ?_⟩
    refine list_nil ?_
    refine pop_then ?_
    refine wp_region_seq ?_
    refine St.ops 7 [⟨0, 0, 0⟩, ⟨0, 0, 0⟩, ⟨0, 0, 1⟩, ⟨0, 0, 0⟩, ⟨0, 0, 1⟩, ⟨0, 0, 0⟩, ⟨0, 0, 1⟩] [1, 3, 6, 9, 32, 34, 36, 38] [0, 2, 3] hS fun _ => ⟨[(1, [], .slice none 0 0), (3, [], .pointer (some ⟨(ν1 0), 0, none⟩)), (6, [], .pointer (some ⟨(ν1 2), 0, none⟩)), (9, [], .int .i64 (trnE n f k)), (32, [], .slice none 0 0), (34, [], .int .i64 f), (36, [], .int .i64 k), (38, [], .bool v)], [((ν1 0), .cells [.int .i64 ((n : Nat) : Int), .slice (some ⟨g210, o211, none⟩) nw c212] 26), ((ν1 2), .cells [.int .i64 0, .slice none 0 0] 26), (g210, .fn o211 (o211 + nw) (u64s ws213 o211))], [(ν1 1) = (ν1 1), (ν1 1) = (ν1 1), (ν1 1) = (ν1 1)], by as_aux_lemma => kernel_rfl, ⟨rfl, rfl, rfl, trivial⟩, fun ac wd hS => ?_⟩
    refine St.call 0 0 hS (f := 23) (args := #[.slice none 0 0, .int .i64 f, .int .i64 k, .bool v]) (obs := []) (by as_aux_lemma => kernel_rfl) trivial (by as_aux_lemma => kernel_rfl) (ref02_Put_nil f k v _ ) ?_
    rintro _ wd ⟨q216, e217, rfl, hF⟩
    refine ⟨.tuple #[q216, .int .i64 e217], rfl, ?_⟩
    replace hS := St.put (d := 39) (v := .tuple #[q216, .int .i64 e217]) (hS.to (hS.mem.keep0 hF)) (by decide)
    clear hF
    refine St.ops 5 [⟨0, 0, 0⟩, ⟨0, 0, 0⟩, ⟨0, 0, 0⟩, ⟨0, 0, 0⟩, ⟨0, 0, 0⟩] [1, 3, 6, 9, 10] [0, 1, 2] hS fun _ => ⟨[(1, [], q216), (3, [], .pointer (some ⟨(ν1 0), 0, none⟩)), (6, [], .pointer (some ⟨(ν1 2), 0, none⟩)), (9, [], .int .i64 (trnE n f k)), (10, [], .int .i64 e217)], [((ν1 0), .cells [.int .i64 ((n : Nat) : Int), .slice (some ⟨g210, o211, none⟩) nw c212] 26), ((ν1 2), .cells [.int .i64 0, .slice none 0 0] 26), (g210, .fn o211 (o211 + nw) (u64s ws213 o211))], [], by as_aux_lemma => kernel_rfl, trivial, fun ac wd hS => ?_⟩
    refine list_nil_seq ?_
    refine St.region_seq [⟨0, 0, 0⟩, ⟨0, 0, 0⟩, ⟨0, 0, 0⟩, ⟨0, 0, 0⟩, ⟨0, 0, 0⟩, ⟨0, 0, 1⟩, ⟨0, 0, 0⟩, ⟨0, 0, 0⟩] [6, 7, 8] [1, 2] hS fun _ => ⟨[(6, [], .pointer (some ⟨(ν1 2), 0, none⟩)), (7, [], q216), (8, [], .bool (((trnE n f k) : Int) == e217))], [((ν1 2), .cells [.int .i64 ((n : Nat) : Int), .slice (some ⟨g210, o211, none⟩) nw c212] 26), (g210, .fn o211 (o211 + nw) (u64s ws213 o211))], [(ν1 2) = (ν1 2), (ν1 2) = (ν1 2), (ν1 0) = (ν1 0), (ν1 0) = (ν1 0)], by as_aux_lemma => kernel_rfl, ⟨rfl, rfl, rfl, rfl, trivial⟩, fun ac wd hS => ?_⟩
    refine wp_ret ?_
    refine St.ret 0 hS (v := .tuple #[.agg #[.int .i64 ((n : Nat) : Int), .slice (some ⟨g210, o211, none⟩) nw c212], q216, .bool (((trnE n f k) : Int) == e217)]) (obs := [(ν1 2) = (ν1 2), (ν1 2) = (ν1 2)]) (by as_aux_lemma => kernel_rfl) ⟨rfl, rfl, trivial⟩ fun hw => ?_
    refine ⟨g210, o211, c212, ws213, q216, ((trnE n f k) : Int) == e217, retd rfl, ?_, ho15, (hw.heap _ (List.mem_of_getElem? (i := 1) rfl)), hw.fr⟩
    all_goals (first | rfl | (simp_all; done))

set_option maxRecDepth 100000 in
set_option maxHeartbeats 1000000 in
theorem law_BitsFirst (length : Int) (gl : Nat) (ol : Nat) (cl : Nat) (l : List (Bool × Int × Int)) (f : Int) (v : Bool) (w : World) (hh0 : HE.holds w 0 (.fn 0 64 dbT)) (hh1 : HE.holds w gl (.fn ol (ol + l.length * 3) (actsV l ol))) :
    Calls Tryd.prog 3 #[.int .i64 length, .slice (some ⟨gl, ol, none⟩) l.length cl, .int .i64 f, .bool v] w fun e w' => e = .returned (.bool true) ∧ Fr w w' [] [] := by
  refine enter (args := [.int .i64 length, .slice (some ⟨gl, ol, none⟩) l.length cl, .int .i64 f, .bool v]) (A := []) Tryd.func3 rfl 82 rfl [(0, .fn 0 64 dbT), (gl, .fn ol (ol + l.length * 3) (actsV l ol))] (WS.startL ⟨⟨rfl, hh0⟩, ⟨rfl, hh1⟩, trivial⟩) fun ac hS => ?_
  refine St.region_seq [⟨0, 0, 0⟩] [0, 1, 2, 3] [0, 1] hS fun _ => ⟨[(0, [], .int .i64 length), (1, [], .slice (some ⟨gl, ol, none⟩) l.length cl), (2, [], .int .i64 f), (3, [], .bool v)], [(0, .fn 0 64 dbT), (gl, .fn ol (ol + l.length * 3) (actsV l ol))], [], by as_aux_lemma => kernel_rfl, trivial, fun ac wd hS => ?_⟩
  refine wp_seq ?_
  refine wp_region_seq ?_
  refine St.call 0 0 hS (f := 7) (args := #[]) (obs := []) (by as_aux_lemma => kernel_rfl) trivial (by as_aux_lemma => kernel_rfl) (law02_awake  _ (hS.mem.heap _ (List.mem_of_getElem? (i := 0) rfl)) ) ?_
  rintro _ wd ⟨rfl, hF⟩
  refine ⟨.bool true, rfl, ?_⟩
  replace hS := St.put (d := 16) (v := .bool true) (hS.to (hS.mem.keep0 hF)) (by decide)
  clear hF
  refine St.ops 1 [⟨0, 0, 0⟩] [0, 1, 2, 3, 17] [0, 1] hS fun _ => ⟨[(0, [], .int .i64 length), (1, [], .slice (some ⟨gl, ol, none⟩) l.length cl), (2, [], .int .i64 f), (3, [], .bool v), (17, [], .bool false)], [(0, .fn 0 64 dbT), (gl, .fn ol (ol + l.length * 3) (actsV l ol))], [], by as_aux_lemma => kernel_rfl, trivial, fun ac wd hS => ?_⟩
  refine list_nil_seq ?_
  refine St.cond (b := false) hS (by as_aux_lemma => kernel_rfl) (fun h => nomatch h) (fun _ => ?_)
  refine wp_skip ?_
  refine pop_then ?_
  refine wp_seq ?_
  refine St.region_seq [⟨0, 0, 0⟩, ⟨0, 0, 0⟩, ⟨0, 0, 0⟩, ⟨0, 0, 0⟩, ⟨3, 0, 0⟩, ⟨3, 0, 0⟩, ⟨0, 8, 0⟩] [0, 1, 2, 3, 24] [0, 1] hS fun _ => ⟨[(0, [], .int .i64 length), (1, [], .slice (some ⟨gl, ol, none⟩) l.length cl), (2, [], .int .i64 f), (3, [], .bool v), (24, [], .bool ((decide ((60 : Int) < ((l.length : Nat) : Int))) || (decide ((2000 : Int) < length))))], [(0, .fn 0 64 dbT), (gl, .fn ol (ol + l.length * 3) (actsV l ol))], [], by as_aux_lemma => kernel_rfl, trivial, fun ac wd hS => ?_⟩
  refine St.cond (b := ((decide ((60 : Int) < ((l.length : Nat) : Int))) || (decide ((2000 : Int) < length)))) hS (by as_aux_lemma => kernel_rfl) (fun hb2 => ?_) (fun hb2 => ?_)
  · have hb2o := hb2
    try simp only [decide_eq_true_eq, decide_eq_false_iff_not, beq_iff_eq, bne_iff_ne, beq_eq_false_iff_ne, bne_eq_false_iff_eq, Bool.and_eq_true, Bool.or_eq_true, Bool.and_eq_false_iff, Bool.or_eq_false_iff, Bool.not_eq_true', Bool.not_eq_false', ne_eq, Int.not_lt, Int.not_le, Bool.true_and, Bool.false_and, Bool.and_true, Bool.and_false, Bool.or_true, Bool.or_false, Bool.true_or, Bool.false_or, Bool.not_true, Bool.not_false] at hb2
    refine St.region_seq [⟨0, 0, 0⟩] [8] [0] hS fun _ => ⟨[(8, [], .bool true)], [(0, .fn 0 64 dbT)], [], by as_aux_lemma => kernel_rfl, trivial, fun ac wd hS => ?_⟩
    refine wp_ret ?_
    refine pop_then_ret ?_
    refine St.ret 0 hS (v := .bool true) (obs := []) (by as_aux_lemma => kernel_rfl) trivial fun hw => ?_
    refine ⟨retd rfl, hw.fr⟩
  · have hb2o := hb2
    try simp only [decide_eq_true_eq, decide_eq_false_iff_not, beq_iff_eq, bne_iff_ne, beq_eq_false_iff_ne, bne_eq_false_iff_eq, Bool.and_eq_true, Bool.or_eq_true, Bool.and_eq_false_iff, Bool.or_eq_false_iff, Bool.not_eq_true', Bool.not_eq_false', ne_eq, Int.not_lt, Int.not_le, Bool.true_and, Bool.false_and, Bool.and_true, Bool.and_false, Bool.or_true, Bool.or_false, Bool.true_or, Bool.false_or, Bool.not_true, Bool.not_false] at hb2
    refine wp_skip ?_
    refine pop_then ?_
    refine wp_region_seq ?_
    refine St.ops 1 [⟨0, 0, 0⟩] [1, 2, 3, 25] [0, 1] hS fun _ => ⟨[(1, [], .slice (some ⟨gl, ol, none⟩) l.length cl), (2, [], .int .i64 f), (3, [], .bool v), (25, [], .int .i64 length)], [(0, .fn 0 64 dbT), (gl, .fn ol (ol + l.length * 3) (actsV l ol))], [], by as_aux_lemma => kernel_rfl, trivial, fun ac wd hS => ?_⟩
    refine St.call 0 0 hS (f := 8) (args := #[.int .i64 length]) (obs := []) (by as_aux_lemma => kernel_rfl) trivial (by as_aux_lemma => kernel_rfl) (bits_New length _ ) ?_
    rintro _ wd ⟨g23, c24, rfl, hog, hoh, hF⟩
    have ho5 : w.heap.size ≤ g23 := Nat.le_trans hS.mem.fr.size hog
    refine ⟨.agg #[.int .i64 ((capN length : Nat) : Int), .slice (some ⟨g23, 0, none⟩) ((capN length + 63) / 64) c24], rfl, ?_⟩
    replace hS := St.put (d := 26) (v := .agg #[.int .i64 ((capN length : Nat) : Int), .slice (some ⟨g23, 0, none⟩) ((capN length + 63) / 64) c24]) (hS.to (hS.mem.outN hF hog hoh)) (by decide)
    clear hF
    refine St.ops 2 [⟨0, 0, 0⟩, ⟨0, 0, 3⟩] [1, 2, 3, 9] [0, 1, 2, 3] hS fun ν6 => ⟨[(1, [], .slice (some ⟨gl, ol, none⟩) l.length cl), (2, [], .int .i64 f), (3, [], .bool v), (9, [], .pointer (some ⟨(ν6 0), 0, none⟩))], [(0, .fn 0 64 dbT), (gl, .fn ol (ol + l.length * 3) (actsV l ol)), (g23, .fn 0 (0 + ((capN length + 63) / 64)) (u64s (fun _ => 0) 0)), ((ν6 0), .cells [.int .i64 ((capN length : Nat) : Int), .slice (some ⟨g23, 0, none⟩) ((capN length + 63) / 64) c24] 26)], [(ν6 0) = (ν6 0), (ν6 0) = (ν6 0)], by as_aux_lemma => kernel_rfl, ⟨rfl, rfl, trivial⟩, fun ac wd hS => ?_⟩
    refine list_nil_seq ?_
    refine wp_seq ?_
    refine St.region_seq [⟨0, 0, 0⟩, ⟨0, 0, 0⟩, ⟨0, 0, 0⟩] [2, 3, 9, 27, 28, 29] [0, 1, 2, 3] hS fun _ => ⟨[(2, [], .int .i64 f), (3, [], .bool v), (9, [], .pointer (some ⟨(ν6 0), 0, none⟩)), (27, [], .slice (some ⟨gl, ol, none⟩) l.length cl), (28, [], .int .i64 ((l.length : Nat) : Int)), (29, [], .int .i64 0)], [(0, .fn 0 64 dbT), (gl, .fn ol (ol + l.length * 3) (actsV l ol)), (g23, .fn 0 (0 + ((capN length + 63) / 64)) (u64s (fun _ => 0) 0)), ((ν6 0), .cells [.int .i64 ((capN length : Nat) : Int), .slice (some ⟨g23, 0, none⟩) ((capN length + 63) / 64) c24] 26)], [], by as_aux_lemma => kernel_rfl, trivial, fun ac wd hS => ?_⟩
    refine wp_block ?_
    replace hS := St.perm [0, 1, 3, 2] hS rfl (by decide)
    refine St.loop (σ := Int × Nat × Nat × Nat × (Nat → Nat) × (Nat → Bool)) (fun (x : Int × Nat × Nat × Nat × (Nat → Nat) × (Nat → Bool)) => match x with | (x29, gx, ox, cx, wsx, px) => [(2, [], .int .i64 f), (3, [], .bool v), (9, [], .pointer (some ⟨(ν6 0), 0, none⟩)), (27, [], .slice (some ⟨gl, ol, none⟩) l.length cl), (28, [], .int .i64 ((l.length : Nat) : Int)), (29, [], .int .i64 x29)]) (fun (x : Int × Nat × Nat × Nat × (Nat → Nat) × (Nat → Bool)) => match x with | (x29, gx, ox, cx, wsx, px) => [(0, .fn 0 64 dbT), (gl, .fn ol (ol + l.length * 3) (actsV l ol)), ((ν6 0), .cells [.int .i64 ((capN length : Nat) : Int), .slice (some ⟨gx, ox, none⟩) ((capN length + 63) / 64) cx] 26), (gx, .fn ox (ox + ((capN length + 63) / 64)) (u64s wsx ox))]) (fun (x : Int × Nat × Nat × Nat × (Nat → Nat) × (Nat → Bool)) => match x with | (x29, gx, ox, cx, wsx, px) => []) (fun (x : Int × Nat × Nat × Nat × (Nat → Nat) × (Nat → Bool)) => match x with | (x29, gx, ox, cx, wsx, px) => (0 ≤ x29) ∧ (x29 ≤ (l.length : Int)) ∧ (Words wsx ((capN length + 63) / 64) (capN length) px)) (fun (x : Int × Nat × Nat × Nat × (Nat → Nat) × (Nat → Bool)) => match x with | (x29, gx, ox, cx, wsx, px) => l.length - Int.toNat x29) (0, g23, 0, c24, (fun _ => 0), (fun _ => false)) ⟨(by first | omega | rfl | exact words_none _), (by first | omega | rfl | exact words_none _), (by first | omega | rfl | exact words_none _)⟩ hS ?_
    clear hS
    rintro ⟨x29, gx, ox, cx, wsx, px⟩ ⟨i0, i1, i2⟩ ac wd hS
    replace hS : St _ 82 [(2, [], .int .i64 f), (3, [], .bool v), (9, [], .pointer (some ⟨(ν6 0), 0, none⟩)), (27, [], .slice (some ⟨gl, ol, none⟩) l.length cl), (28, [], .int .i64 ((l.length : Nat) : Int)), (29, [], .int .i64 x29)] [(0, .fn 0 64 dbT), (gl, .fn ol (ol + l.length * 3) (actsV l ol)), ((ν6 0), .cells [.int .i64 ((capN length : Nat) : Int), .slice (some ⟨gx, ox, none⟩) ((capN length + 63) / 64) cx] 26), (gx, .fn ox (ox + ((capN length + 63) / 64)) (u64s wsx ox))] [] ac wd := hS
    replace i0 : 0 ≤ x29 := i0
    replace i1 : x29 ≤ (l.length : Int) := i1
    replace i2 : Words wsx ((capN length + 63) / 64) (capN length) px := i2
    have hcl := capN_le length
    have hfl := first_law px (capN length) f v
    have hf1 := fst1_bd px (capN length) f v
    have hi0 : 0 ≤ imax 0 f := by unfold imax; split <;> omega
    refine St.region_seq [⟨0, 0, 0⟩] [2, 3, 9, 27, 28, 29, 30] [0, 1, 2, 3] hS fun _ => ⟨[(2, [], .int .i64 f), (3, [], .bool v), (9, [], .pointer (some ⟨(ν6 0), 0, none⟩)), (27, [], .slice (some ⟨gl, ol, none⟩) l.length cl), (28, [], .int .i64 ((l.length : Nat) : Int)), (29, [], .int .i64 x29), (30, [], .bool (decide ((x29 : Int) < ((l.length : Nat) : Int))))], [(0, .fn 0 64 dbT), (gl, .fn ol (ol + l.length * 3) (actsV l ol)), ((ν6 0), .cells [.int .i64 ((capN length : Nat) : Int), .slice (some ⟨gx, ox, none⟩) ((capN length + 63) / 64) cx] 26), (gx, .fn ox (ox + ((capN length + 63) / 64)) (u64s wsx ox))], [], by as_aux_lemma => kernel_rfl, trivial, fun ac wd hS => ?_⟩
    refine wp_seq ?_
    refine St.cond (b := (decide ((x29 : Int) < ((l.length : Nat) : Int)))) hS (by as_aux_lemma => kernel_rfl) (fun hb6 => ?_) (fun hb6 => ?_)
    · have hb6o := hb6
      try simp only [decide_eq_true_eq, decide_eq_false_iff_not, beq_iff_eq, bne_iff_ne, beq_eq_false_iff_ne, bne_eq_false_iff_eq, Bool.and_eq_true, Bool.or_eq_true, Bool.and_eq_false_iff, Bool.or_eq_false_iff, Bool.not_eq_true', Bool.not_eq_false', ne_eq, Int.not_lt, Int.not_le, Bool.true_and, Bool.false_and, Bool.and_true, Bool.and_false, Bool.or_true, Bool.or_false, Bool.true_or, Bool.false_or, Bool.not_true, Bool.not_false] at hb6
      refine wp_skip ?_
      refine pop_then ?_
      refine wp_seq ?_
      refine wp_block ?_
      refine wp_region_seq ?_
      have ew7 : (actsV l ol (ol + Int.toNat x29 * 3)) = (.bool (actAt l (Int.toNat x29)).1) := actsV_0 _ _ _
      have ew8 : (actsV l ol (ol + Int.toNat x29 * 3 + 1)) = (.int .i64 (actAt l (Int.toNat x29)).2.1) := actsV_1 _ _ _
      have ew9 : (actsV l ol (ol + Int.toNat x29 * 3 + 2)) = (.int .i64 (actAt l (Int.toNat x29)).2.2) := actsV_2 _ _ _
      refine St.ops 2 [⟨0, 2, 0⟩, ⟨0, 0, 1⟩] [2, 3, 9, 27, 28, 29, 32] [0, 1, 2, 3] hS fun _ => ⟨[(2, [], .int .i64 f), (3, [], .bool v), (9, [], .pointer (some ⟨(ν6 0), 0, none⟩)), (27, [], .slice (some ⟨gl, ol, none⟩) l.length cl), (28, [], .int .i64 ((l.length : Nat) : Int)), (29, [], .int .i64 x29), (32, [], .agg #[(actsV l ol (ol + Int.toNat x29 * 3)), (actsV l ol (ol + Int.toNat x29 * 3 + 1)), (actsV l ol (ol + Int.toNat x29 * 3 + 2))])], [(0, .fn 0 64 dbT), (gl, .fn ol (ol + l.length * 3) (actsV l ol)), ((ν6 0), .cells [.int .i64 ((capN length : Nat) : Int), .slice (some ⟨gx, ox, none⟩) ((capN length + 63) / 64) cx] 26), (gx, .fn ox (ox + ((capN length + 63) / 64)) (u64s wsx ox))], [gl = gl, ol ≤ ol + Int.toNat x29 * 3 + 2 ∧ ol + Int.toNat x29 * 3 + 2 < (ol + l.length * 3), gl = gl, ol ≤ ol + Int.toNat x29 * 3 + 1 ∧ ol + Int.toNat x29 * 3 + 1 < (ol + l.length * 3), gl = gl, ol ≤ ol + Int.toNat x29 * 3 ∧ ol + Int.toNat x29 * 3 < (ol + l.length * 3), 0 ≤ x29 ∧ x29 < ((l.length : Nat) : Int)], by as_aux_lemma => kernel_rfl, ⟨rfl, (by (try simp only [ew7, ew8, ew9]); first | omega | (intro _; exact ⟨rfl, trivial⟩) | (simp; omega) | (simp_all; done) | (simp_all; omega)), rfl, (by (try simp only [ew7, ew8, ew9]); first | omega | (intro _; exact ⟨rfl, trivial⟩) | (simp; omega) | (simp_all; done) | (simp_all; omega)), rfl, (by (try simp only [ew7, ew8, ew9]); first | omega | (intro _; exact ⟨rfl, trivial⟩) | (simp; omega) | (simp_all; done) | (simp_all; omega)), (by (try simp only [ew7, ew8, ew9]); first | omega | (intro _; exact ⟨rfl, trivial⟩) | (simp; omega) | (simp_all; done) | (simp_all; omega)), trivial⟩, fun ac wd hS => ?_⟩
      simp only [ew7, ew8, ew9] at hS
      refine St.ops 2 [⟨0, 0, 0⟩, ⟨0, 0, 4⟩] [2, 3, 9, 11, 27, 28, 29] [0, 1, 2, 3, 4] hS fun ν10 => ⟨[(2, [], .int .i64 f), (3, [], .bool v), (9, [], .pointer (some ⟨(ν6 0), 0, none⟩)), (11, [], .pointer (some ⟨(ν10 0), 0, none⟩)), (27, [], .slice (some ⟨gl, ol, none⟩) l.length cl), (28, [], .int .i64 ((l.length : Nat) : Int)), (29, [], .int .i64 x29)], [(0, .fn 0 64 dbT), (gl, .fn ol (ol + l.length * 3) (actsV l ol)), ((ν6 0), .cells [.int .i64 ((capN length : Nat) : Int), .slice (some ⟨gx, ox, none⟩) ((capN length + 63) / 64) cx] 26), (gx, .fn ox (ox + ((capN length + 63) / 64)) (u64s wsx ox)), ((ν10 0), .cells [.bool ((actAt l (Int.toNat x29)).1), .int .i64 ((actAt l (Int.toNat x29)).2.1), .int .i64 ((actAt l (Int.toNat x29)).2.2)] 29)], [(ν10 0) = (ν10 0), (ν10 0) = (ν10 0), (ν10 0) = (ν10 0)], by as_aux_lemma => kernel_rfl, ⟨rfl, rfl, rfl, trivial⟩, fun ac wd hS => ?_⟩
      refine list_nil_seq ?_
      refine wp_region_lit ?_
      refine St.ops 2 [⟨0, 0, 2⟩, ⟨0, 0, 4⟩] [2, 3, 9, 27, 28, 29, 34, 35] [0, 1, 2, 3] hS fun _ => ⟨[(2, [], .int .i64 f), (3, [], .bool v), (9, [], .pointer (some ⟨(ν6 0), 0, none⟩)), (27, [], .slice (some ⟨gl, ol, none⟩) l.length cl), (28, [], .int .i64 ((l.length : Nat) : Int)), (29, [], .int .i64 x29), (34, [], .agg #[.int .i64 ((capN length : Nat) : Int), .slice (some ⟨gx, ox, none⟩) ((capN length + 63) / 64) cx]), (35, [], .agg #[.bool ((actAt l (Int.toNat x29)).1), .int .i64 ((actAt l (Int.toNat x29)).2.1), .int .i64 ((actAt l (Int.toNat x29)).2.2)])], [(0, .fn 0 64 dbT), (gl, .fn ol (ol + l.length * 3) (actsV l ol)), ((ν6 0), .cells [.int .i64 ((capN length : Nat) : Int), .slice (some ⟨gx, ox, none⟩) ((capN length + 63) / 64) cx] 26), (gx, .fn ox (ox + ((capN length + 63) / 64)) (u64s wsx ox))], [(ν10 0) = (ν10 0), (ν10 0) = (ν10 0), (ν10 0) = (ν10 0), (ν6 0) = (ν6 0), (ν6 0) = (ν6 0)], by as_aux_lemma => kernel_rfl, ⟨rfl, rfl, rfl, rfl, rfl, trivial⟩, fun ac wd hS => ?_⟩
      refine St.call 0 0 hS (f := 9) (args := #[.agg #[.int .i64 ((capN length : Nat) : Int), .slice (some ⟨gx, ox, none⟩) ((capN length + 63) / 64) cx], .slice none 0 0, .agg #[.bool ((actAt l (Int.toNat x29)).1), .int .i64 ((actAt l (Int.toNat x29)).2.1), .int .i64 ((actAt l (Int.toNat x29)).2.2)]]) (obs := []) (by as_aux_lemma => kernel_rfl) trivial (by as_aux_lemma => kernel_rfl) (law02_done_nil gx ox cx ((capN length + 63) / 64) _ (capN length) ((actAt l (Int.toNat x29)).1) ((actAt l (Int.toNat x29)).2.1) ((actAt l (Int.toNat x29)).2.2) px _ (hS.mem.heap _ (List.mem_of_getElem? (i := 3) rfl)) (by first | assumption | exact capN_le _) (by first | assumption | exact capN_le _)) ?_
      rintro _ wd ⟨g210, o211, c212, ws213, q214, b215, rfl, hW216, hog, hoh, hF⟩
      have ho17 : g210 = gx ∨ w.heap.size ≤ g210 := by rcases hog with hx | hx; rw [hx]; exact (.inl rfl); exact .inr (Nat.le_trans hS.mem.fr.size hx)
      refine ⟨.tuple #[.agg #[.int .i64 (((capN length) : Nat) : Int), .slice (some ⟨g210, o211, none⟩) ((capN length + 63) / 64) c212], q214, .bool b215], rfl, ?_⟩
      replace hS := St.put (d := 36) (v := .tuple #[.agg #[.int .i64 (((capN length) : Nat) : Int), .slice (some ⟨g210, o211, none⟩) ((capN length + 63) / 64) c212], q214, .bool b215]) (hS.to (hS.mem.outF hF 3 rfl rfl hog hoh)) (by decide)
      clear hF
      refine St.ops 5 [⟨0, 0, 0⟩, ⟨0, 0, 0⟩, ⟨0, 0, 0⟩, ⟨0, 0, 0⟩, ⟨0, 0, 2⟩] [2, 3, 9, 27, 28, 29] [0, 1, 2, 4] hS fun _ => ⟨[(2, [], .int .i64 f), (3, [], .bool v), (9, [], .pointer (some ⟨(ν6 0), 0, none⟩)), (27, [], .slice (some ⟨gl, ol, none⟩) l.length cl), (28, [], .int .i64 ((l.length : Nat) : Int)), (29, [], .int .i64 x29)], [(0, .fn 0 64 dbT), (gl, .fn ol (ol + l.length * 3) (actsV l ol)), ((ν6 0), .cells [.int .i64 (((capN length) : Nat) : Int), .slice (some ⟨g210, o211, none⟩) ((capN length + 63) / 64) c212] 26), (g210, .fn o211 (o211 + ((capN length + 63) / 64)) (u64s ws213 o211))], [(ν6 0) = (ν6 0), (ν6 0) = (ν6 0)], by as_aux_lemma => kernel_rfl, ⟨rfl, rfl, trivial⟩, fun ac wd hS => ?_⟩
      refine list_nil ?_
      refine pop_block ?_
      refine pop_then ?_
      have ew18 : (IntKind.wrap .i64 (x29 + 1)) = (x29 + 1) := i64_in (x := (x29 + 1)) (by omega)
      refine St.region [⟨0, 0, 0⟩, ⟨0, 0, 0⟩] [2, 3, 9, 27, 28, 29] [0, 1, 2, 3] hS fun _ => ⟨[(2, [], .int .i64 f), (3, [], .bool v), (9, [], .pointer (some ⟨(ν6 0), 0, none⟩)), (27, [], .slice (some ⟨gl, ol, none⟩) l.length cl), (28, [], .int .i64 ((l.length : Nat) : Int)), (29, [], .int .i64 (IntKind.wrap .i64 (x29 + 1)))], [(0, .fn 0 64 dbT), (gl, .fn ol (ol + l.length * 3) (actsV l ol)), ((ν6 0), .cells [.int .i64 (((capN length) : Nat) : Int), .slice (some ⟨g210, o211, none⟩) ((capN length + 63) / 64) c212] 26), (g210, .fn o211 (o211 + ((capN length + 63) / 64)) (u64s ws213 o211))], [], by as_aux_lemma => kernel_rfl, trivial, fun ac wd hS => ?_⟩
      simp only [ew18] at hS
      exact pop_then ⟨((x29 + 1), g210, o211, c212, ws213, (trn px (capN length) ((actAt l (Int.toNat x29)).2.1) ((actAt l (Int.toNat x29)).2.2) ((actAt l (Int.toNat x29)).1))), ⟨(by first | omega | assumption | (simp; done) | (simp; omega)), (by first | omega | assumption | (simp; done) | (simp; omega)), (by first | omega | assumption | (simp; done) | (simp; omega))⟩, (by first | omega | (simp; omega) | (simp only []; omega)), hS⟩
    · have hb6o := hb6
      try simp only [decide_eq_true_eq, decide_eq_false_iff_not, beq_iff_eq, bne_iff_ne, beq_eq_false_iff_ne, bne_eq_false_iff_eq, Bool.and_eq_true, Bool.or_eq_true, Bool.and_eq_false_iff, Bool.or_eq_false_iff, Bool.not_eq_true', Bool.not_eq_false', ne_eq, Int.not_lt, Int.not_le, Bool.true_and, Bool.false_and, Bool.and_true, Bool.and_false, Bool.or_true, Bool.or_false, Bool.true_or, Bool.false_or, Bool.not_true, Bool.not_false] at hb6
      refine wp_exit ?_
      refine pop_then_exit ?_
      refine pop_then_exit ?_
      refine pop_block_hit ?_
      refine pop_then ?_
      refine wp_region_seq ?_
      refine St.ops 3 [⟨0, 0, 2⟩, ⟨0, 0, 0⟩, ⟨0, 0, 0⟩] [2, 3, 9, 42, 43, 44] [0, 2, 3] hS fun _ => ⟨[(2, [], .int .i64 f), (3, [], .bool v), (9, [], .pointer (some ⟨(ν6 0), 0, none⟩)), (42, [], .agg #[.int .i64 ((capN length : Nat) : Int), .slice (some ⟨gx, ox, none⟩) ((capN length + 63) / 64) cx]), (43, [], .int .i64 f), (44, [], .bool v)], [(0, .fn 0 64 dbT), ((ν6 0), .cells [.int .i64 ((capN length : Nat) : Int), .slice (some ⟨gx, ox, none⟩) ((capN length + 63) / 64) cx] 26), (gx, .fn ox (ox + ((capN length + 63) / 64)) (u64s wsx ox))], [(ν6 0) = (ν6 0), (ν6 0) = (ν6 0)], by as_aux_lemma => kernel_rfl, ⟨rfl, rfl, trivial⟩, fun ac wd hS => ?_⟩
      refine St.call 0 0 hS (f := 10) (args := #[.agg #[.int .i64 ((capN length : Nat) : Int), .slice (some ⟨gx, ox, none⟩) ((capN length + 63) / 64) cx], .int .i64 f, .bool v]) (obs := []) (by as_aux_lemma => kernel_rfl) trivial (by as_aux_lemma => kernel_rfl) (bits_First gx ox cx ((capN length + 63) / 64) _ (capN length) f v px _ (hS.mem.heap _ (List.mem_of_getElem? (i := 0) rfl)) (hS.mem.heap _ (List.mem_of_getElem? (i := 2) rfl)) (by first | assumption | exact capN_le _) (by first | assumption | exact capN_le _)) ?_
      rintro _ wd ⟨rfl, hF⟩
      refine ⟨.tuple #[.int .i64 (fst1 px (capN length) f v), .bool (fst2 px (capN length) f v)], rfl, ?_⟩
      replace hS := St.put (d := 45) (v := .tuple #[.int .i64 (fst1 px (capN length) f v), .bool (fst2 px (capN length) f v)]) (hS.to (hS.mem.keep0 hF)) (by decide)
      clear hF
      refine St.ops 5 [⟨0, 0, 0⟩, ⟨0, 0, 0⟩, ⟨0, 0, 0⟩, ⟨0, 0, 0⟩, ⟨0, 0, 0⟩] [2, 3, 9, 12, 13] [0, 1, 2] hS fun _ => ⟨[(2, [], .int .i64 f), (3, [], .bool v), (9, [], .pointer (some ⟨(ν6 0), 0, none⟩)), (12, [], .int .i64 (fst1 px (capN length) f v)), (13, [], .bool (fst2 px (capN length) f v))], [(0, .fn 0 64 dbT), ((ν6 0), .cells [.int .i64 ((capN length : Nat) : Int), .slice (some ⟨gx, ox, none⟩) ((capN length + 63) / 64) cx] 26), (gx, .fn ox (ox + ((capN length + 63) / 64)) (u64s wsx ox))], [], by as_aux_lemma => kernel_rfl, trivial, fun ac wd hS => ?_⟩
      refine list_nil_seq ?_
      refine wp_region_seq ?_
      refine St.ops 1 [⟨0, 0, 1⟩] [2, 3, 9, 12, 13, 48] [0, 1, 2] hS fun _ => ⟨[(2, [], .int .i64 f), (3, [], .bool v), (9, [], .pointer (some ⟨(ν6 0), 0, none⟩)), (12, [], .int .i64 (fst1 px (capN length) f v)), (13, [], .bool (fst2 px (capN length) f v)), (48, [], .agg #[.int .i64 ((capN length : Nat) : Int), .slice (some ⟨gx, ox, none⟩) ((capN length + 63) / 64) cx])], [(0, .fn 0 64 dbT), ((ν6 0), .cells [.int .i64 ((capN length : Nat) : Int), .slice (some ⟨gx, ox, none⟩) ((capN length + 63) / 64) cx] 26), (gx, .fn ox (ox + ((capN length + 63) / 64)) (u64s wsx ox))], [(ν6 0) = (ν6 0), (ν6 0) = (ν6 0)], by as_aux_lemma => kernel_rfl, ⟨rfl, rfl, trivial⟩, fun ac wd hS => ?_⟩
      refine St.call 0 0 hS (f := 11) (args := #[.agg #[.int .i64 ((capN length : Nat) : Int), .slice (some ⟨gx, ox, none⟩) ((capN length + 63) / 64) cx]]) (obs := []) (by as_aux_lemma => kernel_rfl) trivial (by as_aux_lemma => kernel_rfl) (bits_Len_ gx ox cx ((capN length + 63) / 64) _ (capN length) _ (hS.mem.heap _ (List.mem_of_getElem? (i := 2) rfl)) ) ?_
      rintro _ wd ⟨rfl, hF⟩
      refine ⟨.int .i64 (((capN length) : Nat) : Int), rfl, ?_⟩
      replace hS := St.put (d := 49) (v := .int .i64 (((capN length) : Nat) : Int)) (hS.to (hS.mem.keep0 hF)) (by decide)
      clear hF
      refine St.ops 1 [⟨0, 0, 0⟩] [2, 3, 9, 12, 13, 14] [0, 1, 2] hS fun _ => ⟨[(2, [], .int .i64 f), (3, [], .bool v), (9, [], .pointer (some ⟨(ν6 0), 0, none⟩)), (12, [], .int .i64 (fst1 px (capN length) f v)), (13, [], .bool (fst2 px (capN length) f v)), (14, [], .int .i64 (((capN length) : Nat) : Int))], [(0, .fn 0 64 dbT), ((ν6 0), .cells [.int .i64 ((capN length : Nat) : Int), .slice (some ⟨gx, ox, none⟩) ((capN length + 63) / 64) cx] 26), (gx, .fn ox (ox + ((capN length + 63) / 64)) (u64s wsx ox))], [], by as_aux_lemma => kernel_rfl, trivial, fun ac wd hS => ?_⟩
      refine list_nil_seq ?_
      refine wp_seq ?_
      refine St.region_seq [⟨0, 0, 0⟩] [2, 3, 9, 12, 14, 50] [0, 1, 2] hS fun _ => ⟨[(2, [], .int .i64 f), (3, [], .bool v), (9, [], .pointer (some ⟨(ν6 0), 0, none⟩)), (12, [], .int .i64 (fst1 px (capN length) f v)), (14, [], .int .i64 (((capN length) : Nat) : Int)), (50, [], .bool (fst2 px (capN length) f v))], [(0, .fn 0 64 dbT), ((ν6 0), .cells [.int .i64 ((capN length : Nat) : Int), .slice (some ⟨gx, ox, none⟩) ((capN length + 63) / 64) cx] 26), (gx, .fn ox (ox + ((capN length + 63) / 64)) (u64s wsx ox))], [], by as_aux_lemma => kernel_rfl, trivial, fun ac wd hS => ?_⟩
      refine St.cond (b := (fst2 px (capN length) f v)) hS (by as_aux_lemma => kernel_rfl) (fun hb19 => ?_) (fun hb19 => ?_)
      · have hb19o := hb19
        try simp only [decide_eq_true_eq, decide_eq_false_iff_not, beq_iff_eq, bne_iff_ne, beq_eq_false_iff_ne, bne_eq_false_iff_eq, Bool.and_eq_true, Bool.or_eq_true, Bool.and_eq_false_iff, Bool.or_eq_false_iff, Bool.not_eq_true', Bool.not_eq_false', ne_eq, Int.not_lt, Int.not_le, Bool.true_and, Bool.false_and, Bool.and_true, Bool.and_false, Bool.or_true, Bool.or_false, Bool.true_or, Bool.false_or, Bool.not_true, Bool.not_false] at hb19
        refine St.region_seq [⟨0, 0, 0⟩, ⟨0, 0, 0⟩] [2, 3, 9, 12, 14] [0, 1, 2] hS fun _ => ⟨[(2, [], .int .i64 f), (3, [], .bool v), (9, [], .pointer (some ⟨(ν6 0), 0, none⟩)), (12, [], .int .i64 (fst1 px (capN length) f v)), (14, [], .int .i64 (fst1 px (capN length) f v))], [(0, .fn 0 64 dbT), ((ν6 0), .cells [.int .i64 ((capN length : Nat) : Int), .slice (some ⟨gx, ox, none⟩) ((capN length + 63) / 64) cx] 26), (gx, .fn ox (ox + ((capN length + 63) / 64)) (u64s wsx ox))], [], by as_aux_lemma => kernel_rfl, trivial, fun ac wd hS => ?_⟩
        refine wp_region_seq ?_
        refine St.ops 2 [⟨0, 0, 1⟩, ⟨0, 0, 0⟩] [2, 3, 9, 12, 14, 52, 53] [0, 1, 2] hS fun _ => ⟨[(2, [], .int .i64 f), (3, [], .bool v), (9, [], .pointer (some ⟨(ν6 0), 0, none⟩)), (12, [], .int .i64 (fst1 px (capN length) f v)), (14, [], .int .i64 (fst1 px (capN length) f v)), (52, [], .agg #[.int .i64 ((capN length : Nat) : Int), .slice (some ⟨gx, ox, none⟩) ((capN length + 63) / 64) cx]), (53, [], .int .i64 (fst1 px (capN length) f v))], [(0, .fn 0 64 dbT), ((ν6 0), .cells [.int .i64 ((capN length : Nat) : Int), .slice (some ⟨gx, ox, none⟩) ((capN length + 63) / 64) cx] 26), (gx, .fn ox (ox + ((capN length + 63) / 64)) (u64s wsx ox))], [(ν6 0) = (ν6 0), (ν6 0) = (ν6 0)], by as_aux_lemma => kernel_rfl, ⟨rfl, rfl, trivial⟩, fun ac wd hS => ?_⟩
        refine St.call 0 0 hS (f := 12) (args := #[.agg #[.int .i64 ((capN length : Nat) : Int), .slice (some ⟨gx, ox, none⟩) ((capN length + 63) / 64) cx], .int .i64 (fst1 px (capN length) f v)]) (obs := []) (by as_aux_lemma => kernel_rfl) trivial (by as_aux_lemma => kernel_rfl) (bits_Has gx ox cx ((capN length + 63) / 64) _ (capN length) (fst1 px (capN length) f v) px _ (hS.mem.heap _ (List.mem_of_getElem? (i := 2) rfl)) (by first | assumption | exact capN_le _) (by first | assumption | exact capN_le _)) ?_
        rintro _ wd ⟨rfl, hF⟩
        refine ⟨.bool (hasV px (capN length) (fst1 px (capN length) f v)), rfl, ?_⟩
        replace hS := St.put (d := 54) (v := .bool (hasV px (capN length) (fst1 px (capN length) f v))) (hS.to (hS.mem.keep0 hF)) (by decide)
        clear hF
        refine St.ops 8 [⟨0, 0, 0⟩, ⟨0, 0, 0⟩, ⟨0, 0, 0⟩, ⟨3, 0, 0⟩, ⟨3, 0, 0⟩, ⟨3, 0, 0⟩, ⟨0, 8, 0⟩, ⟨0, 0, 0⟩] [2, 3, 9, 12, 14, 62] [0, 1, 2] hS fun _ => ⟨[(2, [], .int .i64 f), (3, [], .bool v), (9, [], .pointer (some ⟨(ν6 0), 0, none⟩)), (12, [], .int .i64 (fst1 px (capN length) f v)), (14, [], .int .i64 (fst1 px (capN length) f v)), (62, [], .bool ((!((hasV px (capN length) (fst1 px (capN length) f v)) == v)) || (decide (((fst1 px (capN length) f v) : Int) < f))))], [(0, .fn 0 64 dbT), ((ν6 0), .cells [.int .i64 ((capN length : Nat) : Int), .slice (some ⟨gx, ox, none⟩) ((capN length + 63) / 64) cx] 26), (gx, .fn ox (ox + ((capN length + 63) / 64)) (u64s wsx ox))], [], by as_aux_lemma => kernel_rfl, trivial, fun ac wd hS => ?_⟩
        have hg20 : ((!((hasV px (capN length) (fst1 px (capN length) f v)) == v)) || (decide (((fst1 px (capN length) f v) : Int) < f))) = false := by first | (simp [hfl.2.1 (by assumption)]; done) | (obtain ⟨q1, q2, q3⟩ := hfl.1 (by assumption); simp [q1]; done) | (obtain ⟨q1, q2, q3⟩ := hfl.1 (by assumption); simp [q1]; omega) | (obtain ⟨q1, q2, q3⟩ := hfl.1 (by assumption); simp; omega)
        rw [hg20] at hS
        refine St.ops 2 [⟨1, 0, 0⟩, ⟨1, 0, 1⟩] [2, 3, 9, 14, 62, 63, 64] [0, 1, 2] hS fun _ => ⟨[(2, [], .int .i64 f), (3, [], .bool v), (9, [], .pointer (some ⟨(ν6 0), 0, none⟩)), (14, [], .int .i64 (fst1 px (capN length) f v)), (62, [], .bool false), (63, [], .int .i64 (fst1 px (capN length) f v)), (64, [], .agg #[.int .i64 ((capN length : Nat) : Int), .slice (some ⟨gx, ox, none⟩) ((capN length + 63) / 64) cx])], [(0, .fn 0 64 dbT), ((ν6 0), .cells [.int .i64 ((capN length : Nat) : Int), .slice (some ⟨gx, ox, none⟩) ((capN length + 63) / 64) cx] 26), (gx, .fn ox (ox + ((capN length + 63) / 64)) (u64s wsx ox))], [(.bool false : Value) = .bool false, (ν6 0) = (ν6 0), (ν6 0) = (ν6 0), (.bool false : Value) = .bool false], by as_aux_lemma => kernel_rfl, ⟨rfl, rfl, rfl, rfl, trivial⟩, fun ac wd hS => ?_⟩
        refine St.call 1 0 hS (f := 11) (args := #[.agg #[.int .i64 ((capN length : Nat) : Int), .slice (some ⟨gx, ox, none⟩) ((capN length + 63) / 64) cx]]) (obs := [(.bool false : Value) = .bool false]) (by as_aux_lemma => kernel_rfl) ⟨rfl, trivial⟩ (by as_aux_lemma => kernel_rfl) (bits_Len_ gx ox cx ((capN length + 63) / 64) _ (capN length) _ (hS.mem.heap _ (List.mem_of_getElem? (i := 2) rfl)) ) ?_
        rintro _ wd ⟨rfl, hF⟩
        refine ⟨.int .i64 (((capN length) : Nat) : Int), rfl, ?_⟩
        replace hS := St.put (d := 65) (v := .int .i64 (((capN length) : Nat) : Int)) (hS.to (hS.mem.keep0 hF)) (by decide)
        clear hF
        refine St.ops 2 [⟨1, 0, 0⟩, ⟨0, 6, 0⟩] [2, 3, 9, 14, 67] [0, 1, 2] hS fun _ => ⟨[(2, [], .int .i64 f), (3, [], .bool v), (9, [], .pointer (some ⟨(ν6 0), 0, none⟩)), (14, [], .int .i64 (fst1 px (capN length) f v)), (67, [], .bool (decide (((((capN length) : Nat) : Int) : Int) ≤ (fst1 px (capN length) f v))))], [(0, .fn 0 64 dbT), ((ν6 0), .cells [.int .i64 ((capN length : Nat) : Int), .slice (some ⟨gx, ox, none⟩) ((capN length + 63) / 64) cx] 26), (gx, .fn ox (ox + ((capN length + 63) / 64)) (u64s wsx ox))], [(.bool false : Value) = .bool false, (.bool false : Value) = .bool false], by as_aux_lemma => kernel_rfl, ⟨rfl, rfl, trivial⟩, fun ac wd hS => ?_⟩
        refine list_nil_seq ?_
        refine St.cond (b := (decide (((((capN length) : Nat) : Int) : Int) ≤ (fst1 px (capN length) f v)))) hS (by as_aux_lemma => kernel_rfl) (fun h => absurd h (by first | (simp [hfl.2.1 (by assumption)]; done) | (obtain ⟨q1, q2, q3⟩ := hfl.1 (by assumption); simp [q1]; done) | (obtain ⟨q1, q2, q3⟩ := hfl.1 (by assumption); simp [q1]; omega) | (obtain ⟨q1, q2, q3⟩ := hfl.1 (by assumption); simp; omega))) (fun _ => ?_)
        refine wp_skip ?_
        refine pop_then ?_
        refine wp_seq ?_
        refine St.region_seq [⟨0, 0, 0⟩, ⟨0, 0, 0⟩, ⟨0, 0, 0⟩] [3, 9, 14, 15] [0, 1, 2] hS fun _ => ⟨[(3, [], .bool v), (9, [], .pointer (some ⟨(ν6 0), 0, none⟩)), (14, [], .int .i64 (fst1 px (capN length) f v)), (15, [], .int .i64 (imax 0 f))], [(0, .fn 0 64 dbT), ((ν6 0), .cells [.int .i64 ((capN length : Nat) : Int), .slice (some ⟨gx, ox, none⟩) ((capN length + 63) / 64) cx] 26), (gx, .fn ox (ox + ((capN length + 63) / 64)) (u64s wsx ox))], [], by as_aux_lemma => kernel_rfl, trivial, fun ac wd hS => ?_⟩
        refine wp_block ?_
        refine St.loop (σ := Int) (fun (x : Int) => match x with | x15 => [(3, [], .bool v), (9, [], .pointer (some ⟨(ν6 0), 0, none⟩)), (14, [], .int .i64 (fst1 px (capN length) f v)), (15, [], .int .i64 x15)]) (fun (x : Int) => match x with | x15 => [(0, .fn 0 64 dbT), ((ν6 0), .cells [.int .i64 ((capN length : Nat) : Int), .slice (some ⟨gx, ox, none⟩) ((capN length + 63) / 64) cx] 26), (gx, .fn ox (ox + ((capN length + 63) / 64)) (u64s wsx ox))]) (fun (x : Int) => match x with | x15 => []) (fun (x : Int) => match x with | x15 => (imax 0 f ≤ x15)) (fun (x : Int) => match x with | x15 => Int.toNat ((capN length : Int) - x15)) (imax 0 f) (by omega) hS ?_
        clear hS
        rintro x15 j0 ac wd hS
        replace hS : St _ 82 [(3, [], .bool v), (9, [], .pointer (some ⟨(ν6 0), 0, none⟩)), (14, [], .int .i64 (fst1 px (capN length) f v)), (15, [], .int .i64 x15)] [(0, .fn 0 64 dbT), ((ν6 0), .cells [.int .i64 ((capN length : Nat) : Int), .slice (some ⟨gx, ox, none⟩) ((capN length + 63) / 64) cx] 26), (gx, .fn ox (ox + ((capN length + 63) / 64)) (u64s wsx ox))] [] ac wd := hS
        replace j0 : imax 0 f ≤ x15 := j0
        refine wp_seq ?_
        refine St.region_seq [⟨0, 0, 0⟩, ⟨0, 0, 0⟩, ⟨0, 0, 0⟩] [3, 9, 14, 15, 74] [0, 1, 2] hS fun _ => ⟨[(3, [], .bool v), (9, [], .pointer (some ⟨(ν6 0), 0, none⟩)), (14, [], .int .i64 (fst1 px (capN length) f v)), (15, [], .int .i64 x15), (74, [], .bool (decide ((x15 : Int) < (fst1 px (capN length) f v))))], [(0, .fn 0 64 dbT), ((ν6 0), .cells [.int .i64 ((capN length : Nat) : Int), .slice (some ⟨gx, ox, none⟩) ((capN length + 63) / 64) cx] 26), (gx, .fn ox (ox + ((capN length + 63) / 64)) (u64s wsx ox))], [], by as_aux_lemma => kernel_rfl, trivial, fun ac wd hS => ?_⟩
        refine St.cond (b := (decide ((x15 : Int) < (fst1 px (capN length) f v)))) hS (by as_aux_lemma => kernel_rfl) (fun hb22 => ?_) (fun hb22 => ?_)
        · have hb22o := hb22
          try simp only [decide_eq_true_eq, decide_eq_false_iff_not, beq_iff_eq, bne_iff_ne, beq_eq_false_iff_ne, bne_eq_false_iff_eq, Bool.and_eq_true, Bool.or_eq_true, Bool.and_eq_false_iff, Bool.or_eq_false_iff, Bool.not_eq_true', Bool.not_eq_false', ne_eq, Int.not_lt, Int.not_le, Bool.true_and, Bool.false_and, Bool.and_true, Bool.and_false, Bool.or_true, Bool.or_false, Bool.true_or, Bool.false_or, Bool.not_true, Bool.not_false] at hb22
          refine wp_skip ?_
          refine pop_then ?_
          refine wp_seq ?_
          refine wp_block ?_
          refine wp_region_seq ?_
          refine St.ops 2 [⟨0, 0, 1⟩, ⟨0, 0, 0⟩] [3, 9, 14, 15, 77, 78] [0, 1, 2] hS fun _ => ⟨[(3, [], .bool v), (9, [], .pointer (some ⟨(ν6 0), 0, none⟩)), (14, [], .int .i64 (fst1 px (capN length) f v)), (15, [], .int .i64 x15), (77, [], .agg #[.int .i64 ((capN length : Nat) : Int), .slice (some ⟨gx, ox, none⟩) ((capN length + 63) / 64) cx]), (78, [], .int .i64 x15)], [(0, .fn 0 64 dbT), ((ν6 0), .cells [.int .i64 ((capN length : Nat) : Int), .slice (some ⟨gx, ox, none⟩) ((capN length + 63) / 64) cx] 26), (gx, .fn ox (ox + ((capN length + 63) / 64)) (u64s wsx ox))], [(ν6 0) = (ν6 0), (ν6 0) = (ν6 0)], by as_aux_lemma => kernel_rfl, ⟨rfl, rfl, trivial⟩, fun ac wd hS => ?_⟩
          refine St.call 0 0 hS (f := 12) (args := #[.agg #[.int .i64 ((capN length : Nat) : Int), .slice (some ⟨gx, ox, none⟩) ((capN length + 63) / 64) cx], .int .i64 x15]) (obs := []) (by as_aux_lemma => kernel_rfl) trivial (by as_aux_lemma => kernel_rfl) (bits_Has gx ox cx ((capN length + 63) / 64) _ (capN length) x15 px _ (hS.mem.heap _ (List.mem_of_getElem? (i := 2) rfl)) (by first | assumption | exact capN_le _) (by first | assumption | exact capN_le _)) ?_
          rintro _ wd ⟨rfl, hF⟩
          refine ⟨.bool (hasV px (capN length) x15), rfl, ?_⟩
          replace hS := St.put (d := 79) (v := .bool (hasV px (capN length) x15)) (hS.to (hS.mem.keep0 hF)) (by decide)
          clear hF
          refine St.ops 2 [⟨0, 0, 0⟩, ⟨0, 0, 0⟩] [3, 9, 14, 15, 81] [0, 1, 2] hS fun _ => ⟨[(3, [], .bool v), (9, [], .pointer (some ⟨(ν6 0), 0, none⟩)), (14, [], .int .i64 (fst1 px (capN length) f v)), (15, [], .int .i64 x15), (81, [], .bool ((hasV px (capN length) x15) == v))], [(0, .fn 0 64 dbT), ((ν6 0), .cells [.int .i64 ((capN length : Nat) : Int), .slice (some ⟨gx, ox, none⟩) ((capN length + 63) / 64) cx] 26), (gx, .fn ox (ox + ((capN length + 63) / 64)) (u64s wsx ox))], [], by as_aux_lemma => kernel_rfl, trivial, fun ac wd hS => ?_⟩
          refine list_nil_seq ?_
          refine St.cond (b := ((hasV px (capN length) x15) == v)) hS (by as_aux_lemma => kernel_rfl) (fun hb23 => ?_) (fun hb23 => ?_)
          · have hb23o := hb23
            try simp only [decide_eq_true_eq, decide_eq_false_iff_not, beq_iff_eq, bne_iff_ne, beq_eq_false_iff_ne, bne_eq_false_iff_eq, Bool.and_eq_true, Bool.or_eq_true, Bool.and_eq_false_iff, Bool.or_eq_false_iff, Bool.not_eq_true', Bool.not_eq_false', ne_eq, Int.not_lt, Int.not_le, Bool.true_and, Bool.false_and, Bool.and_true, Bool.and_false, Bool.or_true, Bool.or_false, Bool.true_or, Bool.false_or, Bool.not_true, Bool.not_false] at hb23
            refine St.region_seq [⟨0, 0, 0⟩] [8] [0] hS fun _ => ⟨[(8, [], .bool false)], [(0, .fn 0 64 dbT)], [], by as_aux_lemma => kernel_rfl, trivial, fun ac wd hS => ?_⟩
            refine wp_ret ?_
            refine pop_block_ret ?_
            refine pop_then_ret ?_
            refine pop_then_ret ?_
            refine pop_block_ret ?_
            refine pop_then_ret ?_
            refine St.ret 0 hS (v := .bool false) (obs := []) (by as_aux_lemma => kernel_rfl) trivial fun hw => ?_
            refine ⟨retd (vbool ?_), hw.fr⟩
            all_goals (first | rfl | (simp_all; done))
          · have hb23o := hb23
            try simp only [decide_eq_true_eq, decide_eq_false_iff_not, beq_iff_eq, bne_iff_ne, beq_eq_false_iff_ne, bne_eq_false_iff_eq, Bool.and_eq_true, Bool.or_eq_true, Bool.and_eq_false_iff, Bool.or_eq_false_iff, Bool.not_eq_true', Bool.not_eq_false', ne_eq, Int.not_lt, Int.not_le, Bool.true_and, Bool.false_and, Bool.and_true, Bool.and_false, Bool.or_true, Bool.or_false, Bool.true_or, Bool.false_or, Bool.not_true, Bool.not_false] at hb23
            refine wp_skip ?_
            refine pop_block ?_
            refine pop_then ?_
            have ew24 : (IntKind.wrap .i64 (x15 + 1)) = (x15 + 1) := i64_in (x := (x15 + 1)) (by omega)
            refine St.region [⟨0, 0, 0⟩, ⟨0, 0, 0⟩, ⟨0, 0, 0⟩] [3, 9, 14, 15] [0, 1, 2] hS fun _ => ⟨[(3, [], .bool v), (9, [], .pointer (some ⟨(ν6 0), 0, none⟩)), (14, [], .int .i64 (fst1 px (capN length) f v)), (15, [], .int .i64 (IntKind.wrap .i64 (x15 + 1)))], [(0, .fn 0 64 dbT), ((ν6 0), .cells [.int .i64 ((capN length : Nat) : Int), .slice (some ⟨gx, ox, none⟩) ((capN length + 63) / 64) cx] 26), (gx, .fn ox (ox + ((capN length + 63) / 64)) (u64s wsx ox))], [], by as_aux_lemma => kernel_rfl, trivial, fun ac wd hS => ?_⟩
            simp only [ew24] at hS
            exact pop_then ⟨(x15 + 1), (by first | omega | assumption | (simp; done) | (simp; omega)), (by first | (simp only []; omega) | omega), hS⟩
        · have hb22o := hb22
          try simp only [decide_eq_true_eq, decide_eq_false_iff_not, beq_iff_eq, bne_iff_ne, beq_eq_false_iff_ne, bne_eq_false_iff_eq, Bool.and_eq_true, Bool.or_eq_true, Bool.and_eq_false_iff, Bool.or_eq_false_iff, Bool.not_eq_true', Bool.not_eq_false', ne_eq, Int.not_lt, Int.not_le, Bool.true_and, Bool.false_and, Bool.and_true, Bool.and_false, Bool.or_true, Bool.or_false, Bool.true_or, Bool.false_or, Bool.not_true, Bool.not_false] at hb22
          refine wp_exit ?_
          refine pop_then_exit ?_
          refine pop_then_exit ?_
          refine pop_block_hit ?_
          refine pop_then ?_
          refine St.region_seq [⟨0, 0, 0⟩] [8] [0] hS fun _ => ⟨[(8, [], .bool true)], [(0, .fn 0 64 dbT)], [], by as_aux_lemma => kernel_rfl, trivial, fun ac wd hS => ?_⟩
          refine wp_ret ?_
          refine St.ret 0 hS (v := .bool true) (obs := []) (by as_aux_lemma => kernel_rfl) trivial fun hw => ?_
          refine ⟨retd rfl, hw.fr⟩
      · have hb19o := hb19
        try simp only [decide_eq_true_eq, decide_eq_false_iff_not, beq_iff_eq, bne_iff_ne, beq_eq_false_iff_ne, bne_eq_false_iff_eq, Bool.and_eq_true, Bool.or_eq_true, Bool.and_eq_false_iff, Bool.or_eq_false_iff, Bool.not_eq_true', Bool.not_eq_false', ne_eq, Int.not_lt, Int.not_le, Bool.true_and, Bool.false_and, Bool.and_true, Bool.and_false, Bool.or_true, Bool.or_false, Bool.true_or, Bool.false_or, Bool.not_true, Bool.not_false] at hb19
        refine St.region_seq [⟨0, 0, 0⟩, ⟨0, 0, 0⟩] [2, 3, 9, 14, 69] [0, 1, 2] hS fun _ => ⟨[(2, [], .int .i64 f), (3, [], .bool v), (9, [], .pointer (some ⟨(ν6 0), 0, none⟩)), (14, [], .int .i64 (((capN length) : Nat) : Int)), (69, [], .bool (((fst1 px (capN length) f v) : Int) != 0))], [(0, .fn 0 64 dbT), ((ν6 0), .cells [.int .i64 ((capN length : Nat) : Int), .slice (some ⟨gx, ox, none⟩) ((capN length + 63) / 64) cx] 26), (gx, .fn ox (ox + ((capN length + 63) / 64)) (u64s wsx ox))], [], by as_aux_lemma => kernel_rfl, trivial, fun ac wd hS => ?_⟩
        refine St.cond (b := (((fst1 px (capN length) f v) : Int) != 0)) hS (by as_aux_lemma => kernel_rfl) (fun h => absurd h (by first | (simp [hfl.2.1 (by assumption)]; done) | (obtain ⟨q1, q2, q3⟩ := hfl.1 (by assumption); simp [q1]; done) | (obtain ⟨q1, q2, q3⟩ := hfl.1 (by assumption); simp [q1]; omega) | (obtain ⟨q1, q2, q3⟩ := hfl.1 (by assumption); simp; omega))) (fun _ => ?_)
        refine wp_skip ?_
        refine pop_then ?_
        refine wp_seq ?_
        refine St.region_seq [⟨0, 0, 0⟩, ⟨0, 0, 0⟩, ⟨0, 0, 0⟩] [3, 9, 14, 15] [0, 1, 2] hS fun _ => ⟨[(3, [], .bool v), (9, [], .pointer (some ⟨(ν6 0), 0, none⟩)), (14, [], .int .i64 (((capN length) : Nat) : Int)), (15, [], .int .i64 (imax 0 f))], [(0, .fn 0 64 dbT), ((ν6 0), .cells [.int .i64 ((capN length : Nat) : Int), .slice (some ⟨gx, ox, none⟩) ((capN length + 63) / 64) cx] 26), (gx, .fn ox (ox + ((capN length + 63) / 64)) (u64s wsx ox))], [], by as_aux_lemma => kernel_rfl, trivial, fun ac wd hS => ?_⟩
        refine wp_block ?_
        refine St.loop (σ := Int) (fun (x : Int) => match x with | x15 => [(3, [], .bool v), (9, [], .pointer (some ⟨(ν6 0), 0, none⟩)), (14, [], .int .i64 (((capN length) : Nat) : Int)), (15, [], .int .i64 x15)]) (fun (x : Int) => match x with | x15 => [(0, .fn 0 64 dbT), ((ν6 0), .cells [.int .i64 ((capN length : Nat) : Int), .slice (some ⟨gx, ox, none⟩) ((capN length + 63) / 64) cx] 26), (gx, .fn ox (ox + ((capN length + 63) / 64)) (u64s wsx ox))]) (fun (x : Int) => match x with | x15 => []) (fun (x : Int) => match x with | x15 => (imax 0 f ≤ x15)) (fun (x : Int) => match x with | x15 => Int.toNat ((capN length : Int) - x15)) (imax 0 f) (by omega) hS ?_
        clear hS
        rintro x15 j0 ac wd hS
        replace hS : St _ 82 [(3, [], .bool v), (9, [], .pointer (some ⟨(ν6 0), 0, none⟩)), (14, [], .int .i64 (((capN length) : Nat) : Int)), (15, [], .int .i64 x15)] [(0, .fn 0 64 dbT), ((ν6 0), .cells [.int .i64 ((capN length : Nat) : Int), .slice (some ⟨gx, ox, none⟩) ((capN length + 63) / 64) cx] 26), (gx, .fn ox (ox + ((capN length + 63) / 64)) (u64s wsx ox))] [] ac wd := hS
        replace j0 : imax 0 f ≤ x15 := j0
        refine wp_seq ?_
        refine St.region_seq [⟨0, 0, 0⟩, ⟨0, 0, 0⟩, ⟨0, 0, 0⟩] [3, 9, 14, 15, 74] [0, 1, 2] hS fun _ => ⟨[(3, [], .bool v), (9, [], .pointer (some ⟨(ν6 0), 0, none⟩)), (14, [], .int .i64 (((capN length) : Nat) : Int)), (15, [], .int .i64 x15), (74, [], .bool (decide ((x15 : Int) < (((capN length) : Nat) : Int))))], [(0, .fn 0 64 dbT), ((ν6 0), .cells [.int .i64 ((capN length : Nat) : Int), .slice (some ⟨gx, ox, none⟩) ((capN length + 63) / 64) cx] 26), (gx, .fn ox (ox + ((capN length + 63) / 64)) (u64s wsx ox))], [], by as_aux_lemma => kernel_rfl, trivial, fun ac wd hS => ?_⟩
        refine St.cond (b := (decide ((x15 : Int) < (((capN length) : Nat) : Int)))) hS (by as_aux_lemma => kernel_rfl) (fun hb26 => ?_) (fun hb26 => ?_)
        · have hb26o := hb26
          try simp only [decide_eq_true_eq, decide_eq_false_iff_not, beq_iff_eq, bne_iff_ne, beq_eq_false_iff_ne, bne_eq_false_iff_eq, Bool.and_eq_true, Bool.or_eq_true, Bool.and_eq_false_iff, Bool.or_eq_false_iff, Bool.not_eq_true', Bool.not_eq_false', ne_eq, Int.not_lt, Int.not_le, Bool.true_and, Bool.false_and, Bool.and_true, Bool.and_false, Bool.or_true, Bool.or_false, Bool.true_or, Bool.false_or, Bool.not_true, Bool.not_false] at hb26
          refine wp_skip ?_
          refine pop_then ?_
          refine wp_seq ?_
          refine wp_block ?_
          refine wp_region_seq ?_
          refine St.ops 2 [⟨0, 0, 1⟩, ⟨0, 0, 0⟩] [3, 9, 14, 15, 77, 78] [0, 1, 2] hS fun _ => ⟨[(3, [], .bool v), (9, [], .pointer (some ⟨(ν6 0), 0, none⟩)), (14, [], .int .i64 (((capN length) : Nat) : Int)), (15, [], .int .i64 x15), (77, [], .agg #[.int .i64 ((capN length : Nat) : Int), .slice (some ⟨gx, ox, none⟩) ((capN length + 63) / 64) cx]), (78, [], .int .i64 x15)], [(0, .fn 0 64 dbT), ((ν6 0), .cells [.int .i64 ((capN length : Nat) : Int), .slice (some ⟨gx, ox, none⟩) ((capN length + 63) / 64) cx] 26), (gx, .fn ox (ox + ((capN length + 63) / 64)) (u64s wsx ox))], [(ν6 0) = (ν6 0), (ν6 0) = (ν6 0)], by as_aux_lemma => kernel_rfl, ⟨rfl, rfl, trivial⟩, fun ac wd hS => ?_⟩
          refine St.call 0 0 hS (f := 12) (args := #[.agg #[.int .i64 ((capN length : Nat) : Int), .slice (some ⟨gx, ox, none⟩) ((capN length + 63) / 64) cx], .int .i64 x15]) (obs := []) (by as_aux_lemma => kernel_rfl) trivial (by as_aux_lemma => kernel_rfl) (bits_Has gx ox cx ((capN length + 63) / 64) _ (capN length) x15 px _ (hS.mem.heap _ (List.mem_of_getElem? (i := 2) rfl)) (by first | assumption | exact capN_le _) (by first | assumption | exact capN_le _)) ?_
          rintro _ wd ⟨rfl, hF⟩
          refine ⟨.bool (hasV px (capN length) x15), rfl, ?_⟩
          replace hS := St.put (d := 79) (v := .bool (hasV px (capN length) x15)) (hS.to (hS.mem.keep0 hF)) (by decide)
          clear hF
          refine St.ops 2 [⟨0, 0, 0⟩, ⟨0, 0, 0⟩] [3, 9, 14, 15, 81] [0, 1, 2] hS fun _ => ⟨[(3, [], .bool v), (9, [], .pointer (some ⟨(ν6 0), 0, none⟩)), (14, [], .int .i64 (((capN length) : Nat) : Int)), (15, [], .int .i64 x15), (81, [], .bool ((hasV px (capN length) x15) == v))], [(0, .fn 0 64 dbT), ((ν6 0), .cells [.int .i64 ((capN length : Nat) : Int), .slice (some ⟨gx, ox, none⟩) ((capN length + 63) / 64) cx] 26), (gx, .fn ox (ox + ((capN length + 63) / 64)) (u64s wsx ox))], [], by as_aux_lemma => kernel_rfl, trivial, fun ac wd hS => ?_⟩
          refine list_nil_seq ?_
          refine St.cond (b := ((hasV px (capN length) x15) == v)) hS (by as_aux_lemma => kernel_rfl) (fun hb27 => ?_) (fun hb27 => ?_)
          · have hb27o := hb27
            try simp only [decide_eq_true_eq, decide_eq_false_iff_not, beq_iff_eq, bne_iff_ne, beq_eq_false_iff_ne, bne_eq_false_iff_eq, Bool.and_eq_true, Bool.or_eq_true, Bool.and_eq_false_iff, Bool.or_eq_false_iff, Bool.not_eq_true', Bool.not_eq_false', ne_eq, Int.not_lt, Int.not_le, Bool.true_and, Bool.false_and, Bool.and_true, Bool.and_false, Bool.or_true, Bool.or_false, Bool.true_or, Bool.false_or, Bool.not_true, Bool.not_false] at hb27
            refine St.region_seq [⟨0, 0, 0⟩] [8] [0] hS fun _ => ⟨[(8, [], .bool false)], [(0, .fn 0 64 dbT)], [], by as_aux_lemma => kernel_rfl, trivial, fun ac wd hS => ?_⟩
            refine wp_ret ?_
            refine pop_block_ret ?_
            refine pop_then_ret ?_
            refine pop_then_ret ?_
            refine pop_block_ret ?_
            refine pop_then_ret ?_
            refine St.ret 0 hS (v := .bool false) (obs := []) (by as_aux_lemma => kernel_rfl) trivial fun hw => ?_
            refine ⟨retd (vbool ?_), hw.fr⟩
            all_goals (first | rfl | (simp_all; done))
          · have hb27o := hb27
            try simp only [decide_eq_true_eq, decide_eq_false_iff_not, beq_iff_eq, bne_iff_ne, beq_eq_false_iff_ne, bne_eq_false_iff_eq, Bool.and_eq_true, Bool.or_eq_true, Bool.and_eq_false_iff, Bool.or_eq_false_iff, Bool.not_eq_true', Bool.not_eq_false', ne_eq, Int.not_lt, Int.not_le, Bool.true_and, Bool.false_and, Bool.and_true, Bool.and_false, Bool.or_true, Bool.or_false, Bool.true_or, Bool.false_or, Bool.not_true, Bool.not_false] at hb27
            refine wp_skip ?_
            refine pop_block ?_
            refine pop_then ?_
            have ew28 : (IntKind.wrap .i64 (x15 + 1)) = (x15 + 1) := i64_in (x := (x15 + 1)) (by omega)
            refine St.region [⟨0, 0, 0⟩, ⟨0, 0, 0⟩, ⟨0, 0, 0⟩] [3, 9, 14, 15] [0, 1, 2] hS fun _ => ⟨[(3, [], .bool v), (9, [], .pointer (some ⟨(ν6 0), 0, none⟩)), (14, [], .int .i64 (((capN length) : Nat) : Int)), (15, [], .int .i64 (IntKind.wrap .i64 (x15 + 1)))], [(0, .fn 0 64 dbT), ((ν6 0), .cells [.int .i64 ((capN length : Nat) : Int), .slice (some ⟨gx, ox, none⟩) ((capN length + 63) / 64) cx] 26), (gx, .fn ox (ox + ((capN length + 63) / 64)) (u64s wsx ox))], [], by as_aux_lemma => kernel_rfl, trivial, fun ac wd hS => ?_⟩
            simp only [ew28] at hS
            exact pop_then ⟨(x15 + 1), (by first | omega | assumption | (simp; done) | (simp; omega)), (by first | (simp only []; omega) | omega), hS⟩
        · have hb26o := hb26
          try simp only [decide_eq_true_eq, decide_eq_false_iff_not, beq_iff_eq, bne_iff_ne, beq_eq_false_iff_ne, bne_eq_false_iff_eq, Bool.and_eq_true, Bool.or_eq_true, Bool.and_eq_false_iff, Bool.or_eq_false_iff, Bool.not_eq_true', Bool.not_eq_false', ne_eq, Int.not_lt, Int.not_le, Bool.true_and, Bool.false_and, Bool.and_true, Bool.and_false, Bool.or_true, Bool.or_false, Bool.true_or, Bool.false_or, Bool.not_true, Bool.not_false] at hb26
          refine wp_exit ?_
          refine pop_then_exit ?_
          refine pop_then_exit ?_
          refine pop_block_hit ?_
          refine pop_then ?_
          refine St.region_seq [⟨0, 0, 0⟩] [8] [0] hS fun _ => ⟨[(8, [], .bool true)], [(0, .fn 0 64 dbT)], [], by as_aux_lemma => kernel_rfl, trivial, fun ac wd hS => ?_⟩
          refine wp_ret ?_
          refine St.ret 0 hS (v := .bool true) (obs := []) (by as_aux_lemma => kernel_rfl) trivial fun hw => ?_
          refine ⟨retd rfl, hw.fr⟩

set_option maxRecDepth 100000 in
set_option maxHeartbeats 1000000 in
theorem law_BitsFirst_empty (length : Int) (ao : Option Addr) (cl : Nat) (f : Int) (v : Bool) (w : World) (hh0 : HE.holds w 0 (.fn 0 64 dbT)) :
    Calls Tryd.prog 3 #[.int .i64 length, .slice ao 0 cl, .int .i64 f, .bool v] w fun e w' => e = .returned (.bool true) ∧ Fr w w' [] [] := by
  refine enter (args := [.int .i64 length, .slice ao 0 cl, .int .i64 f, .bool v]) (A := []) Tryd.func3 rfl 82 rfl [(0, .fn 0 64 dbT)] (WS.startL ⟨⟨rfl, hh0⟩, trivial⟩) fun ac hS => ?_
  refine St.region_seq [⟨0, 0, 0⟩] [0, 1, 2, 3] [0] hS fun _ => ⟨[(0, [], .int .i64 length), (1, [], .slice ao 0 cl), (2, [], .int .i64 f), (3, [], .bool v)], [(0, .fn 0 64 dbT)], [], by as_aux_lemma => kernel_rfl, trivial, fun ac wd hS => ?_⟩
  refine wp_seq ?_
  refine wp_region_seq ?_
  refine St.call 0 0 hS (f := 7) (args := #[]) (obs := []) (by as_aux_lemma => kernel_rfl) trivial (by as_aux_lemma => kernel_rfl) (law02_awake  _ (hS.mem.heap _ (List.mem_of_getElem? (i := 0) rfl)) ) ?_
  rintro _ wd ⟨rfl, hF⟩
  refine ⟨.bool true, rfl, ?_⟩
  replace hS := St.put (d := 16) (v := .bool true) (hS.to (hS.mem.keep0 hF)) (by decide)
  clear hF
  refine St.ops 1 [⟨0, 0, 0⟩] [0, 1, 2, 3, 17] [0] hS fun _ => ⟨[(0, [], .int .i64 length), (1, [], .slice ao 0 cl), (2, [], .int .i64 f), (3, [], .bool v), (17, [], .bool false)], [(0, .fn 0 64 dbT)], [], by as_aux_lemma => kernel_rfl, trivial, fun ac wd hS => ?_⟩
  refine list_nil_seq ?_
  refine St.cond (b := false) hS (by as_aux_lemma => kernel_rfl) (fun h => nomatch h) (fun _ => ?_)
  refine wp_skip ?_
  refine pop_then ?_
  refine wp_seq ?_
  refine St.region_seq [⟨0, 0, 0⟩, ⟨0, 0, 0⟩, ⟨0, 0, 0⟩, ⟨0, 0, 0⟩, ⟨1, 0, 0⟩, ⟨1, 0, 0⟩, ⟨0, 6, 0⟩] [0, 1, 2, 3, 24] [0] hS fun _ => ⟨[(0, [], .int .i64 length), (1, [], .slice ao 0 cl), (2, [], .int .i64 f), (3, [], .bool v), (24, [], .bool (decide ((2000 : Int) < length)))], [(0, .fn 0 64 dbT)], [(.bool false : Value) = .bool false, (.bool false : Value) = .bool false, (.bool false : Value) = .bool false], by as_aux_lemma => kernel_rfl, ⟨rfl, rfl, rfl, trivial⟩, fun ac wd hS => ?_⟩
  refine St.cond (b := (decide ((2000 : Int) < length))) hS (by as_aux_lemma => kernel_rfl) (fun hb2 => ?_) (fun hb2 => ?_)
  · have hb2o := hb2
    try simp only [decide_eq_true_eq, decide_eq_false_iff_not, beq_iff_eq, bne_iff_ne, beq_eq_false_iff_ne, bne_eq_false_iff_eq, Bool.and_eq_true, Bool.or_eq_true, Bool.and_eq_false_iff, Bool.or_eq_false_iff, Bool.not_eq_true', Bool.not_eq_false', ne_eq, Int.not_lt, Int.not_le, Bool.true_and, Bool.false_and, Bool.and_true, Bool.and_false, Bool.or_true, Bool.or_false, Bool.true_or, Bool.false_or, Bool.not_true, Bool.not_false] at hb2
    refine St.region_seq [⟨0, 0, 0⟩] [8] [0] hS fun _ => ⟨[(8, [], .bool true)], [(0, .fn 0 64 dbT)], [], by as_aux_lemma => kernel_rfl, trivial, fun ac wd hS => ?_⟩
    refine wp_ret ?_
    refine pop_then_ret ?_
    refine St.ret 0 hS (v := .bool true) (obs := []) (by as_aux_lemma => kernel_rfl) trivial fun hw => ?_
    refine ⟨retd rfl, hw.fr⟩
  · have hb2o := hb2
    try simp only [decide_eq_true_eq, decide_eq_false_iff_not, beq_iff_eq, bne_iff_ne, beq_eq_false_iff_ne, bne_eq_false_iff_eq, Bool.and_eq_true, Bool.or_eq_true, Bool.and_eq_false_iff, Bool.or_eq_false_iff, Bool.not_eq_true', Bool.not_eq_false', ne_eq, Int.not_lt, Int.not_le, Bool.true_and, Bool.false_and, Bool.and_true, Bool.and_false, Bool.or_true, Bool.or_false, Bool.true_or, Bool.false_or, Bool.not_true, Bool.not_false] at hb2
    refine wp_skip ?_
    refine pop_then ?_
    refine wp_region_seq ?_
    refine St.ops 1 [⟨0, 0, 0⟩] [1, 2, 3, 25] [0] hS fun _ => ⟨[(1, [], .slice ao 0 cl), (2, [], .int .i64 f), (3, [], .bool v), (25, [], .int .i64 length)], [(0, .fn 0 64 dbT)], [], by as_aux_lemma => kernel_rfl, trivial, fun ac wd hS => ?_⟩
    refine St.call 0 0 hS (f := 8) (args := #[.int .i64 length]) (obs := []) (by as_aux_lemma => kernel_rfl) trivial (by as_aux_lemma => kernel_rfl) (bits_New length _ ) ?_
    rintro _ wd ⟨g23, c24, rfl, hog, hoh, hF⟩
    have ho5 : w.heap.size ≤ g23 := Nat.le_trans hS.mem.fr.size hog
    refine ⟨.agg #[.int .i64 ((capN length : Nat) : Int), .slice (some ⟨g23, 0, none⟩) ((capN length + 63) / 64) c24], rfl, ?_⟩
    replace hS := St.put (d := 26) (v := .agg #[.int .i64 ((capN length : Nat) : Int), .slice (some ⟨g23, 0, none⟩) ((capN length + 63) / 64) c24]) (hS.to (hS.mem.outN hF hog hoh)) (by decide)
    clear hF
    refine St.ops 2 [⟨0, 0, 0⟩, ⟨0, 0, 2⟩] [1, 2, 3, 9] [0, 1, 2] hS fun ν6 => ⟨[(1, [], .slice ao 0 cl), (2, [], .int .i64 f), (3, [], .bool v), (9, [], .pointer (some ⟨(ν6 0), 0, none⟩))], [(0, .fn 0 64 dbT), (g23, .fn 0 (0 + ((capN length + 63) / 64)) (u64s (fun _ => 0) 0)), ((ν6 0), .cells [.int .i64 ((capN length : Nat) : Int), .slice (some ⟨g23, 0, none⟩) ((capN length + 63) / 64) c24] 26)], [(ν6 0) = (ν6 0), (ν6 0) = (ν6 0)], by as_aux_lemma => kernel_rfl, ⟨rfl, rfl, trivial⟩, fun ac wd hS => ?_⟩
    refine list_nil_seq ?_
    refine wp_seq ?_
    refine St.region_seq [⟨0, 0, 0⟩, ⟨0, 0, 0⟩, ⟨0, 0, 0⟩] [2, 3, 9, 27, 28, 29] [0, 1, 2] hS fun _ => ⟨[(2, [], .int .i64 f), (3, [], .bool v), (9, [], .pointer (some ⟨(ν6 0), 0, none⟩)), (27, [], .slice ao 0 cl), (28, [], .int .i64 0), (29, [], .int .i64 0)], [(0, .fn 0 64 dbT), (g23, .fn 0 (0 + ((capN length + 63) / 64)) (u64s (fun _ => 0) 0)), ((ν6 0), .cells [.int .i64 ((capN length : Nat) : Int), .slice (some ⟨g23, 0, none⟩) ((capN length + 63) / 64) c24] 26)], [], by as_aux_lemma => kernel_rfl, trivial, fun ac wd hS => ?_⟩
    refine wp_block ?_
    replace hS := St.perm [0, 2, 1] hS rfl (by decide)
    refine St.loop (σ := Int × Nat × Nat × Nat × (Nat → Nat) × (Nat → Bool)) (fun (x : Int × Nat × Nat × Nat × (Nat → Nat) × (Nat → Bool)) => match x with | (x29, gx, ox, cx, wsx, px) => [(2, [], .int .i64 f), (3, [], .bool v), (9, [], .pointer (some ⟨(ν6 0), 0, none⟩)), (27, [], .slice ao 0 cl), (28, [], .int .i64 0), (29, [], .int .i64 x29)]) (fun (x : Int × Nat × Nat × Nat × (Nat → Nat) × (Nat → Bool)) => match x with | (x29, gx, ox, cx, wsx, px) => [(0, .fn 0 64 dbT), ((ν6 0), .cells [.int .i64 ((capN length : Nat) : Int), .slice (some ⟨gx, ox, none⟩) ((capN length + 63) / 64) cx] 26), (gx, .fn ox (ox + ((capN length + 63) / 64)) (u64s wsx ox))]) (fun (x : Int × Nat × Nat × Nat × (Nat → Nat) × (Nat → Bool)) => match x with | (x29, gx, ox, cx, wsx, px) => []) (fun (x : Int × Nat × Nat × Nat × (Nat → Nat) × (Nat → Bool)) => match x with | (x29, gx, ox, cx, wsx, px) => (x29 = 0) ∧ (Words wsx ((capN length + 63) / 64) (capN length) px)) (fun (x : Int × Nat × Nat × Nat × (Nat → Nat) × (Nat → Bool)) => match x with | (x29, gx, ox, cx, wsx, px) => 0) (0, g23, 0, c24, (fun _ => 0), (fun _ => false)) ⟨(by first | omega | rfl | exact words_none _), (by first | omega | rfl | exact words_none _)⟩ hS ?_
    clear hS
    rintro ⟨x29, gx, ox, cx, wsx, px⟩ ⟨i0, i2⟩ ac wd hS
    replace hS : St _ 82 [(2, [], .int .i64 f), (3, [], .bool v), (9, [], .pointer (some ⟨(ν6 0), 0, none⟩)), (27, [], .slice ao 0 cl), (28, [], .int .i64 0), (29, [], .int .i64 x29)] [(0, .fn 0 64 dbT), ((ν6 0), .cells [.int .i64 ((capN length : Nat) : Int), .slice (some ⟨gx, ox, none⟩) ((capN length + 63) / 64) cx] 26), (gx, .fn ox (ox + ((capN length + 63) / 64)) (u64s wsx ox))] [] ac wd := hS
    replace i0 : x29 = 0 := i0
    replace i2 : Words wsx ((capN length + 63) / 64) (capN length) px := i2
    have hcl := capN_le length
    have hfl := first_law px (capN length) f v
    have hf1 := fst1_bd px (capN length) f v
    have hi0 : 0 ≤ imax 0 f := by unfold imax; split <;> omega
    refine St.region_seq [⟨0, 0, 0⟩] [2, 3, 9, 27, 28, 29, 30] [0, 1, 2] hS fun _ => ⟨[(2, [], .int .i64 f), (3, [], .bool v), (9, [], .pointer (some ⟨(ν6 0), 0, none⟩)), (27, [], .slice ao 0 cl), (28, [], .int .i64 0), (29, [], .int .i64 x29), (30, [], .bool (decide ((x29 : Int) < 0)))], [(0, .fn 0 64 dbT), ((ν6 0), .cells [.int .i64 ((capN length : Nat) : Int), .slice (some ⟨gx, ox, none⟩) ((capN length + 63) / 64) cx] 26), (gx, .fn ox (ox + ((capN length + 63) / 64)) (u64s wsx ox))], [], by as_aux_lemma => kernel_rfl, trivial, fun ac wd hS => ?_⟩
    refine wp_seq ?_
    refine St.cond (b := (decide ((x29 : Int) < 0))) hS (by as_aux_lemma => kernel_rfl) (fun h => absurd h (by simp; omega)) (fun _ => ?_)
    refine wp_exit ?_
    refine pop_then_exit ?_
    refine pop_then_exit ?_
    refine pop_block_hit ?_
    refine pop_then ?_
    refine wp_region_seq ?_
    refine St.ops 3 [⟨0, 0, 1⟩, ⟨0, 0, 0⟩, ⟨0, 0, 0⟩] [2, 3, 9, 42, 43, 44] [0, 1, 2] hS fun _ => ⟨[(2, [], .int .i64 f), (3, [], .bool v), (9, [], .pointer (some ⟨(ν6 0), 0, none⟩)), (42, [], .agg #[.int .i64 ((capN length : Nat) : Int), .slice (some ⟨gx, ox, none⟩) ((capN length + 63) / 64) cx]), (43, [], .int .i64 f), (44, [], .bool v)], [(0, .fn 0 64 dbT), ((ν6 0), .cells [.int .i64 ((capN length : Nat) : Int), .slice (some ⟨gx, ox, none⟩) ((capN length + 63) / 64) cx] 26), (gx, .fn ox (ox + ((capN length + 63) / 64)) (u64s wsx ox))], [(ν6 0) = (ν6 0), (ν6 0) = (ν6 0)], by as_aux_lemma => kernel_rfl, ⟨rfl, rfl, trivial⟩, fun ac wd hS => ?_⟩
    refine St.call 0 0 hS (f := 10) (args := #[.agg #[.int .i64 ((capN length : Nat) : Int), .slice (some ⟨gx, ox, none⟩) ((capN length + 63) / 64) cx], .int .i64 f, .bool v]) (obs := []) (by as_aux_lemma => kernel_rfl) trivial (by as_aux_lemma => kernel_rfl) (bits_First gx ox cx ((capN length + 63) / 64) _ (capN length) f v px _ (hS.mem.heap _ (List.mem_of_getElem? (i := 0) rfl)) (hS.mem.heap _ (List.mem_of_getElem? (i := 2) rfl)) (by first | assumption | exact capN_le _) (by first | assumption | exact capN_le _)) ?_
    rintro _ wd ⟨rfl, hF⟩
    refine ⟨.tuple #[.int .i64 (fst1 px (capN length) f v), .bool (fst2 px (capN length) f v)], rfl, ?_⟩
    replace hS := St.put (d := 45) (v := .tuple #[.int .i64 (fst1 px (capN length) f v), .bool (fst2 px (capN length) f v)]) (hS.to (hS.mem.keep0 hF)) (by decide)
    clear hF
    refine St.ops 5 [⟨0, 0, 0⟩, ⟨0, 0, 0⟩, ⟨0, 0, 0⟩, ⟨0, 0, 0⟩, ⟨0, 0, 0⟩] [2, 3, 9, 12, 13] [0, 1, 2] hS fun _ => ⟨[(2, [], .int .i64 f), (3, [], .bool v), (9, [], .pointer (some ⟨(ν6 0), 0, none⟩)), (12, [], .int .i64 (fst1 px (capN length) f v)), (13, [], .bool (fst2 px (capN length) f v))], [(0, .fn 0 64 dbT), ((ν6 0), .cells [.int .i64 ((capN length : Nat) : Int), .slice (some ⟨gx, ox, none⟩) ((capN length + 63) / 64) cx] 26), (gx, .fn ox (ox + ((capN length + 63) / 64)) (u64s wsx ox))], [], by as_aux_lemma => kernel_rfl, trivial, fun ac wd hS => ?_⟩
    refine list_nil_seq ?_
    refine wp_region_seq ?_
    refine St.ops 1 [⟨0, 0, 1⟩] [2, 3, 9, 12, 13, 48] [0, 1, 2] hS fun _ => ⟨[(2, [], .int .i64 f), (3, [], .bool v), (9, [], .pointer (some ⟨(ν6 0), 0, none⟩)), (12, [], .int .i64 (fst1 px (capN length) f v)), (13, [], .bool (fst2 px (capN length) f v)), (48, [], .agg #[.int .i64 ((capN length : Nat) : Int), .slice (some ⟨gx, ox, none⟩) ((capN length + 63) / 64) cx])], [(0, .fn 0 64 dbT), ((ν6 0), .cells [.int .i64 ((capN length : Nat) : Int), .slice (some ⟨gx, ox, none⟩) ((capN length + 63) / 64) cx] 26), (gx, .fn ox (ox + ((capN length + 63) / 64)) (u64s wsx ox))], [(ν6 0) = (ν6 0), (ν6 0) = (ν6 0)], by as_aux_lemma => kernel_rfl, ⟨rfl, rfl, trivial⟩, fun ac wd hS => ?_⟩
    refine St.call 0 0 hS (f := 11) (args := #[.agg #[.int .i64 ((capN length : Nat) : Int), .slice (some ⟨gx, ox, none⟩) ((capN length + 63) / 64) cx]]) (obs := []) (by as_aux_lemma => kernel_rfl) trivial (by as_aux_lemma => kernel_rfl) (bits_Len_ gx ox cx ((capN length + 63) / 64) _ (capN length) _ (hS.mem.heap _ (List.mem_of_getElem? (i := 2) rfl)) ) ?_
    rintro _ wd ⟨rfl, hF⟩
    refine ⟨.int .i64 (((capN length) : Nat) : Int), rfl, ?_⟩
    replace hS := St.put (d := 49) (v := .int .i64 (((capN length) : Nat) : Int)) (hS.to (hS.mem.keep0 hF)) (by decide)
    clear hF
    refine St.ops 1 [⟨0, 0, 0⟩] [2, 3, 9, 12, 13, 14] [0, 1, 2] hS fun _ => ⟨[(2, [], .int .i64 f), (3, [], .bool v), (9, [], .pointer (some ⟨(ν6 0), 0, none⟩)), (12, [], .int .i64 (fst1 px (capN length) f v)), (13, [], .bool (fst2 px (capN length) f v)), (14, [], .int .i64 (((capN length) : Nat) : Int))], [(0, .fn 0 64 dbT), ((ν6 0), .cells [.int .i64 ((capN length : Nat) : Int), .slice (some ⟨gx, ox, none⟩) ((capN length + 63) / 64) cx] 26), (gx, .fn ox (ox + ((capN length + 63) / 64)) (u64s wsx ox))], [], by as_aux_lemma => kernel_rfl, trivial, fun ac wd hS => ?_⟩
    refine list_nil_seq ?_
    refine wp_seq ?_
    refine St.region_seq [⟨0, 0, 0⟩] [2, 3, 9, 12, 14, 50] [0, 1, 2] hS fun _ => ⟨[(2, [], .int .i64 f), (3, [], .bool v), (9, [], .pointer (some ⟨(ν6 0), 0, none⟩)), (12, [], .int .i64 (fst1 px (capN length) f v)), (14, [], .int .i64 (((capN length) : Nat) : Int)), (50, [], .bool (fst2 px (capN length) f v))], [(0, .fn 0 64 dbT), ((ν6 0), .cells [.int .i64 ((capN length : Nat) : Int), .slice (some ⟨gx, ox, none⟩) ((capN length + 63) / 64) cx] 26), (gx, .fn ox (ox + ((capN length + 63) / 64)) (u64s wsx ox))], [], by as_aux_lemma => kernel_rfl, trivial, fun ac wd hS => ?_⟩
    refine St.cond (b := (fst2 px (capN length) f v)) hS (by as_aux_lemma => kernel_rfl) (fun hb7 => ?_) (fun hb7 => ?_)
    · have hb7o := hb7
      try simp only [decide_eq_true_eq, decide_eq_false_iff_not, beq_iff_eq, bne_iff_ne, beq_eq_false_iff_ne, bne_eq_false_iff_eq, Bool.and_eq_true, Bool.or_eq_true, Bool.and_eq_false_iff, Bool.or_eq_false_iff, Bool.not_eq_true', Bool.not_eq_false', ne_eq, Int.not_lt, Int.not_le, Bool.true_and, Bool.false_and, Bool.and_true, Bool.and_false, Bool.or_true, Bool.or_false, Bool.true_or, Bool.false_or, Bool.not_true, Bool.not_false] at hb7
      refine St.region_seq [⟨0, 0, 0⟩, ⟨0, 0, 0⟩] [2, 3, 9, 12, 14] [0, 1, 2] hS fun _ => ⟨[(2, [], .int .i64 f), (3, [], .bool v), (9, [], .pointer (some ⟨(ν6 0), 0, none⟩)), (12, [], .int .i64 (fst1 px (capN length) f v)), (14, [], .int .i64 (fst1 px (capN length) f v))], [(0, .fn 0 64 dbT), ((ν6 0), .cells [.int .i64 ((capN length : Nat) : Int), .slice (some ⟨gx, ox, none⟩) ((capN length + 63) / 64) cx] 26), (gx, .fn ox (ox + ((capN length + 63) / 64)) (u64s wsx ox))], [], by as_aux_lemma => kernel_rfl, trivial, fun ac wd hS => ?_⟩
      refine wp_region_seq ?_
      refine St.ops 2 [⟨0, 0, 1⟩, ⟨0, 0, 0⟩] [2, 3, 9, 12, 14, 52, 53] [0, 1, 2] hS fun _ => ⟨[(2, [], .int .i64 f), (3, [], .bool v), (9, [], .pointer (some ⟨(ν6 0), 0, none⟩)), (12, [], .int .i64 (fst1 px (capN length) f v)), (14, [], .int .i64 (fst1 px (capN length) f v)), (52, [], .agg #[.int .i64 ((capN length : Nat) : Int), .slice (some ⟨gx, ox, none⟩) ((capN length + 63) / 64) cx]), (53, [], .int .i64 (fst1 px (capN length) f v))], [(0, .fn 0 64 dbT), ((ν6 0), .cells [.int .i64 ((capN length : Nat) : Int), .slice (some ⟨gx, ox, none⟩) ((capN length + 63) / 64) cx] 26), (gx, .fn ox (ox + ((capN length + 63) / 64)) (u64s wsx ox))], [(ν6 0) = (ν6 0), (ν6 0) = (ν6 0)], by as_aux_lemma => kernel_rfl, ⟨rfl, rfl, trivial⟩, fun ac wd hS => ?_⟩
      refine St.call 0 0 hS (f := 12) (args := #[.agg #[.int .i64 ((capN length : Nat) : Int), .slice (some ⟨gx, ox, none⟩) ((capN length + 63) / 64) cx], .int .i64 (fst1 px (capN length) f v)]) (obs := []) (by as_aux_lemma => kernel_rfl) trivial (by as_aux_lemma => kernel_rfl) (bits_Has gx ox cx ((capN length + 63) / 64) _ (capN length) (fst1 px (capN length) f v) px _ (hS.mem.heap _ (List.mem_of_getElem? (i := 2) rfl)) (by first | assumption | exact capN_le _) (by first | assumption | exact capN_le _)) ?_
      rintro _ wd ⟨rfl, hF⟩
      refine ⟨.bool (hasV px (capN length) (fst1 px (capN length) f v)), rfl, ?_⟩
      replace hS := St.put (d := 54) (v := .bool (hasV px (capN length) (fst1 px (capN length) f v))) (hS.to (hS.mem.keep0 hF)) (by decide)
      clear hF
      refine St.ops 8 [⟨0, 0, 0⟩, ⟨0, 0, 0⟩, ⟨0, 0, 0⟩, ⟨3, 0, 0⟩, ⟨3, 0, 0⟩, ⟨3, 0, 0⟩, ⟨0, 8, 0⟩, ⟨0, 0, 0⟩] [2, 3, 9, 12, 14, 62] [0, 1, 2] hS fun _ => ⟨[(2, [], .int .i64 f), (3, [], .bool v), (9, [], .pointer (some ⟨(ν6 0), 0, none⟩)), (12, [], .int .i64 (fst1 px (capN length) f v)), (14, [], .int .i64 (fst1 px (capN length) f v)), (62, [], .bool ((!((hasV px (capN length) (fst1 px (capN length) f v)) == v)) || (decide (((fst1 px (capN length) f v) : Int) < f))))], [(0, .fn 0 64 dbT), ((ν6 0), .cells [.int .i64 ((capN length : Nat) : Int), .slice (some ⟨gx, ox, none⟩) ((capN length + 63) / 64) cx] 26), (gx, .fn ox (ox + ((capN length + 63) / 64)) (u64s wsx ox))], [], by as_aux_lemma => kernel_rfl, trivial, fun ac wd hS => ?_⟩
      have hg8 : ((!((hasV px (capN length) (fst1 px (capN length) f v)) == v)) || (decide (((fst1 px (capN length) f v) : Int) < f))) = false := by first | (simp [hfl.2.1 (by assumption)]; done) | (obtain ⟨q1, q2, q3⟩ := hfl.1 (by assumption); simp [q1]; done) | (obtain ⟨q1, q2, q3⟩ := hfl.1 (by assumption); simp [q1]; omega) | (obtain ⟨q1, q2, q3⟩ := hfl.1 (by assumption); simp; omega)
      rw [hg8] at hS
      refine St.ops 2 [⟨1, 0, 0⟩, ⟨1, 0, 1⟩] [2, 3, 9, 14, 62, 63, 64] [0, 1, 2] hS fun _ => ⟨[(2, [], .int .i64 f), (3, [], .bool v), (9, [], .pointer (some ⟨(ν6 0), 0, none⟩)), (14, [], .int .i64 (fst1 px (capN length) f v)), (62, [], .bool false), (63, [], .int .i64 (fst1 px (capN length) f v)), (64, [], .agg #[.int .i64 ((capN length : Nat) : Int), .slice (some ⟨gx, ox, none⟩) ((capN length + 63) / 64) cx])], [(0, .fn 0 64 dbT), ((ν6 0), .cells [.int .i64 ((capN length : Nat) : Int), .slice (some ⟨gx, ox, none⟩) ((capN length + 63) / 64) cx] 26), (gx, .fn ox (ox + ((capN length + 63) / 64)) (u64s wsx ox))], [(.bool false : Value) = .bool false, (ν6 0) = (ν6 0), (ν6 0) = (ν6 0), (.bool false : Value) = .bool false], by as_aux_lemma => kernel_rfl, ⟨rfl, rfl, rfl, rfl, trivial⟩, fun ac wd hS => ?_⟩
      refine St.call 1 0 hS (f := 11) (args := #[.agg #[.int .i64 ((capN length : Nat) : Int), .slice (some ⟨gx, ox, none⟩) ((capN length + 63) / 64) cx]]) (obs := [(.bool false : Value) = .bool false]) (by as_aux_lemma => kernel_rfl) ⟨rfl, trivial⟩ (by as_aux_lemma => kernel_rfl) (bits_Len_ gx ox cx ((capN length + 63) / 64) _ (capN length) _ (hS.mem.heap _ (List.mem_of_getElem? (i := 2) rfl)) ) ?_
      rintro _ wd ⟨rfl, hF⟩
      refine ⟨.int .i64 (((capN length) : Nat) : Int), rfl, ?_⟩
      replace hS := St.put (d := 65) (v := .int .i64 (((capN length) : Nat) : Int)) (hS.to (hS.mem.keep0 hF)) (by decide)
      clear hF
      refine St.ops 2 [⟨1, 0, 0⟩, ⟨0, 6, 0⟩] [2, 3, 9, 14, 67] [0, 1, 2] hS fun _ => ⟨[(2, [], .int .i64 f), (3, [], .bool v), (9, [], .pointer (some ⟨(ν6 0), 0, none⟩)), (14, [], .int .i64 (fst1 px (capN length) f v)), (67, [], .bool (decide (((((capN length) : Nat) : Int) : Int) ≤ (fst1 px (capN length) f v))))], [(0, .fn 0 64 dbT), ((ν6 0), .cells [.int .i64 ((capN length : Nat) : Int), .slice (some ⟨gx, ox, none⟩) ((capN length + 63) / 64) cx] 26), (gx, .fn ox (ox + ((capN length + 63) / 64)) (u64s wsx ox))], [(.bool false : Value) = .bool false, (.bool false : Value) = .bool false], by as_aux_lemma => kernel_rfl, ⟨rfl, rfl, trivial⟩, fun ac wd hS => ?_⟩
      refine list_nil_seq ?_
      refine St.cond (b := (decide (((((capN length) : Nat) : Int) : Int) ≤ (fst1 px (capN length) f v)))) hS (by as_aux_lemma => kernel_rfl) (fun h => absurd h (by first | (simp [hfl.2.1 (by assumption)]; done) | (obtain ⟨q1, q2, q3⟩ := hfl.1 (by assumption); simp [q1]; done) | (obtain ⟨q1, q2, q3⟩ := hfl.1 (by assumption); simp [q1]; omega) | (obtain ⟨q1, q2, q3⟩ := hfl.1 (by assumption); simp; omega))) (fun _ => ?_)
      refine wp_skip ?_
      refine pop_then ?_
      refine wp_seq ?_
      refine St.region_seq [⟨0, 0, 0⟩, ⟨0, 0, 0⟩, ⟨0, 0, 0⟩] [3, 9, 14, 15] [0, 1, 2] hS fun _ => ⟨[(3, [], .bool v), (9, [], .pointer (some ⟨(ν6 0), 0, none⟩)), (14, [], .int .i64 (fst1 px (capN length) f v)), (15, [], .int .i64 (imax 0 f))], [(0, .fn 0 64 dbT), ((ν6 0), .cells [.int .i64 ((capN length : Nat) : Int), .slice (some ⟨gx, ox, none⟩) ((capN length + 63) / 64) cx] 26), (gx, .fn ox (ox + ((capN length + 63) / 64)) (u64s wsx ox))], [], by as_aux_lemma => kernel_rfl, trivial, fun ac wd hS => ?_⟩
      refine wp_block ?_
      refine St.loop (σ := Int) (fun (x : Int) => match x with | x15 => [(3, [], .bool v), (9, [], .pointer (some ⟨(ν6 0), 0, none⟩)), (14, [], .int .i64 (fst1 px (capN length) f v)), (15, [], .int .i64 x15)]) (fun (x : Int) => match x with | x15 => [(0, .fn 0 64 dbT), ((ν6 0), .cells [.int .i64 ((capN length : Nat) : Int), .slice (some ⟨gx, ox, none⟩) ((capN length + 63) / 64) cx] 26), (gx, .fn ox (ox + ((capN length + 63) / 64)) (u64s wsx ox))]) (fun (x : Int) => match x with | x15 => []) (fun (x : Int) => match x with | x15 => (imax 0 f ≤ x15)) (fun (x : Int) => match x with | x15 => Int.toNat ((capN length : Int) - x15)) (imax 0 f) (by omega) hS ?_
      clear hS
      rintro x15 j0 ac wd hS
      replace hS : St _ 82 [(3, [], .bool v), (9, [], .pointer (some ⟨(ν6 0), 0, none⟩)), (14, [], .int .i64 (fst1 px (capN length) f v)), (15, [], .int .i64 x15)] [(0, .fn 0 64 dbT), ((ν6 0), .cells [.int .i64 ((capN length : Nat) : Int), .slice (some ⟨gx, ox, none⟩) ((capN length + 63) / 64) cx] 26), (gx, .fn ox (ox + ((capN length + 63) / 64)) (u64s wsx ox))] [] ac wd := hS
      replace j0 : imax 0 f ≤ x15 := j0
      refine wp_seq ?_
      refine St.region_seq [⟨0, 0, 0⟩, ⟨0, 0, 0⟩, ⟨0, 0, 0⟩] [3, 9, 14, 15, 74] [0, 1, 2] hS fun _ => ⟨[(3, [], .bool v), (9, [], .pointer (some ⟨(ν6 0), 0, none⟩)), (14, [], .int .i64 (fst1 px (capN length) f v)), (15, [], .int .i64 x15), (74, [], .bool (decide ((x15 : Int) < (fst1 px (capN length) f v))))], [(0, .fn 0 64 dbT), ((ν6 0), .cells [.int .i64 ((capN length : Nat) : Int), .slice (some ⟨gx, ox, none⟩) ((capN length + 63) / 64) cx] 26), (gx, .fn ox (ox + ((capN length + 63) / 64)) (u64s wsx ox))], [], by as_aux_lemma => kernel_rfl, trivial, fun ac wd hS => ?_⟩
      refine St.cond (b := (decide ((x15 : Int) < (fst1 px (capN length) f v)))) hS (by as_aux_lemma => kernel_rfl) (fun hb10 => ?_) (fun hb10 => ?_)
      · have hb10o := hb10
        try simp only [decide_eq_true_eq, decide_eq_false_iff_not, beq_iff_eq, bne_iff_ne, beq_eq_false_iff_ne, bne_eq_false_iff_eq, Bool.and_eq_true, Bool.or_eq_true, Bool.and_eq_false_iff, Bool.or_eq_false_iff, Bool.not_eq_true', Bool.not_eq_false', ne_eq, Int.not_lt, Int.not_le, Bool.true_and, Bool.false_and, Bool.and_true, Bool.and_false, Bool.or_true, Bool.or_false, Bool.true_or, Bool.false_or, Bool.not_true, Bool.not_false] at hb10
        refine wp_skip ?_
        refine pop_then ?_
        refine wp_seq ?_
        refine wp_block ?_
        refine wp_region_seq ?_
        refine St.ops 2 [⟨0, 0, 1⟩, ⟨0, 0, 0⟩] [3, 9, 14, 15, 77, 78] [0, 1, 2] hS fun _ => ⟨[(3, [], .bool v), (9, [], .pointer (some ⟨(ν6 0), 0, none⟩)), (14, [], .int .i64 (fst1 px (capN length) f v)), (15, [], .int .i64 x15), (77, [], .agg #[.int .i64 ((capN length : Nat) : Int), .slice (some ⟨gx, ox, none⟩) ((capN length + 63) / 64) cx]), (78, [], .int .i64 x15)], [(0, .fn 0 64 dbT), ((ν6 0), .cells [.int .i64 ((capN length : Nat) : Int), .slice (some ⟨gx, ox, none⟩) ((capN length + 63) / 64) cx] 26), (gx, .fn ox (ox + ((capN length + 63) / 64)) (u64s wsx ox))], [(ν6 0) = (ν6 0), (ν6 0) = (ν6 0)], by as_aux_lemma => kernel_rfl, ⟨rfl, rfl, trivial⟩, fun ac wd hS => ?_⟩
        refine St.call 0 0 hS (f := 12) (args := #[.agg #[.int .i64 ((capN length : Nat) : Int), .slice (some ⟨gx, ox, none⟩) ((capN length + 63) / 64) cx], .int .i64 x15]) (obs := []) (by as_aux_lemma => kernel_rfl) trivial (by as_aux_lemma => kernel_rfl) (bits_Has gx ox cx ((capN length + 63) / 64) _ (capN length) x15 px _ (hS.mem.heap _ (List.mem_of_getElem? (i := 2) rfl)) (by first | assumption | exact capN_le _) (by first | assumption | exact capN_le _)) ?_
        rintro _ wd ⟨rfl, hF⟩
        refine ⟨.bool (hasV px (capN length) x15), rfl, ?_⟩
        replace hS := St.put (d := 79) (v := .bool (hasV px (capN length) x15)) (hS.to (hS.mem.keep0 hF)) (by decide)
        clear hF
        refine St.ops 2 [⟨0, 0, 0⟩, ⟨0, 0, 0⟩] [3, 9, 14, 15, 81] [0, 1, 2] hS fun _ => ⟨[(3, [], .bool v), (9, [], .pointer (some ⟨(ν6 0), 0, none⟩)), (14, [], .int .i64 (fst1 px (capN length) f v)), (15, [], .int .i64 x15), (81, [], .bool ((hasV px (capN length) x15) == v))], [(0, .fn 0 64 dbT), ((ν6 0), .cells [.int .i64 ((capN length : Nat) : Int), .slice (some ⟨gx, ox, none⟩) ((capN length + 63) / 64) cx] 26), (gx, .fn ox (ox + ((capN length + 63) / 64)) (u64s wsx ox))], [], by as_aux_lemma => kernel_rfl, trivial, fun ac wd hS => ?_⟩
        refine list_nil_seq ?_
        refine St.cond (b := ((hasV px (capN length) x15) == v)) hS (by as_aux_lemma => kernel_rfl) (fun hb11 => ?_) (fun hb11 => ?_)
        · have hb11o := hb11
          try simp only [decide_eq_true_eq, decide_eq_false_iff_not, beq_iff_eq, bne_iff_ne, beq_eq_false_iff_ne, bne_eq_false_iff_eq, Bool.and_eq_true, Bool.or_eq_true, Bool.and_eq_false_iff, Bool.or_eq_false_iff, Bool.not_eq_true', Bool.not_eq_false', ne_eq, Int.not_lt, Int.not_le, Bool.true_and, Bool.false_and, Bool.and_true, Bool.and_false, Bool.or_true, Bool.or_false, Bool.true_or, Bool.false_or, Bool.not_true, Bool.not_false] at hb11
          refine St.region_seq [⟨0, 0, 0⟩] [8] [0] hS fun _ => ⟨[(8, [], .bool false)], [(0, .fn 0 64 dbT)], [], by as_aux_lemma => kernel_rfl, trivial, fun ac wd hS => ?_⟩
          refine wp_ret ?_
          refine pop_block_ret ?_
          refine pop_then_ret ?_
          refine pop_then_ret ?_
          refine pop_block_ret ?_
          refine pop_then_ret ?_
          refine St.ret 0 hS (v := .bool false) (obs := []) (by as_aux_lemma => kernel_rfl) trivial fun hw => ?_
          refine ⟨retd (vbool ?_), hw.fr⟩
          all_goals (first | rfl | (simp_all; done))
        · have hb11o := hb11
          try simp only [decide_eq_true_eq, decide_eq_false_iff_not, beq_iff_eq, bne_iff_ne, beq_eq_false_iff_ne, bne_eq_false_iff_eq, Bool.and_eq_true, Bool.or_eq_true, Bool.and_eq_false_iff, Bool.or_eq_false_iff, Bool.not_eq_true', Bool.not_eq_false', ne_eq, Int.not_lt, Int.not_le, Bool.true_and, Bool.false_and, Bool.and_true, Bool.and_false, Bool.or_true, Bool.or_false, Bool.true_or, Bool.false_or, Bool.not_true, Bool.not_false] at hb11
          refine wp_skip ?_
          refine pop_block ?_
          refine pop_then ?_
          have ew12 : (IntKind.wrap .i64 (x15 + 1)) = (x15 + 1) := i64_in (x := (x15 + 1)) (by omega)
          refine St.region [⟨0, 0, 0⟩, ⟨0, 0, 0⟩, ⟨0, 0, 0⟩] [3, 9, 14, 15] [0, 1, 2] hS fun _ => ⟨[(3, [], .bool v), (9, [], .pointer (some ⟨(ν6 0), 0, none⟩)), (14, [], .int .i64 (fst1 px (capN length) f v)), (15, [], .int .i64 (IntKind.wrap .i64 (x15 + 1)))], [(0, .fn 0 64 dbT), ((ν6 0), .cells [.int .i64 ((capN length : Nat) : Int), .slice (some ⟨gx, ox, none⟩) ((capN length + 63) / 64) cx] 26), (gx, .fn ox (ox + ((capN length + 63) / 64)) (u64s wsx ox))], [], by as_aux_lemma => kernel_rfl, trivial, fun ac wd hS => ?_⟩
          simp only [ew12] at hS
          exact pop_then ⟨(x15 + 1), (by first | omega | assumption | (simp; done) | (simp; omega)), (by first | (simp only []; omega) | omega), hS⟩
      · have hb10o := hb10
        try simp only [decide_eq_true_eq, decide_eq_false_iff_not, beq_iff_eq, bne_iff_ne, beq_eq_false_iff_ne, bne_eq_false_iff_eq, Bool.and_eq_true, Bool.or_eq_true, Bool.and_eq_false_iff, Bool.or_eq_false_iff, Bool.not_eq_true', Bool.not_eq_false', ne_eq, Int.not_lt, Int.not_le, Bool.true_and, Bool.false_and, Bool.and_true, Bool.and_false, Bool.or_true, Bool.or_false, Bool.true_or, Bool.false_or, Bool.not_true, Bool.not_false] at hb10
        refine wp_exit ?_
        refine pop_then_exit ?_
        refine pop_then_exit ?_
        refine pop_block_hit ?_
        refine pop_then ?_
        refine St.region_seq [⟨0, 0, 0⟩] [8] [0] hS fun _ => ⟨[(8, [], .bool true)], [(0, .fn 0 64 dbT)], [], by as_aux_lemma => kernel_rfl, trivial, fun ac wd hS => ?_⟩
        refine wp_ret ?_
        refine St.ret 0 hS (v := .bool true) (obs := []) (by as_aux_lemma => kernel_rfl) trivial fun hw => ?_
        refine ⟨retd rfl, hw.fr⟩
    · have hb7o := hb7
      try simp only [decide_eq_true_eq, decide_eq_false_iff_not, beq_iff_eq, bne_iff_ne, beq_eq_false_iff_ne, bne_eq_false_iff_eq, Bool.and_eq_true, Bool.or_eq_true, Bool.and_eq_false_iff, Bool.or_eq_false_iff, Bool.not_eq_true', Bool.not_eq_false', ne_eq, Int.not_lt, Int.not_le, Bool.true_and, Bool.false_and, Bool.and_true, Bool.and_false, Bool.or_true, Bool.or_false, Bool.true_or, Bool.false_or, Bool.not_true, Bool.not_false] at hb7
      refine St.region_seq [⟨0, 0, 0⟩, ⟨0, 0, 0⟩] [2, 3, 9, 14, 69] [0, 1, 2] hS fun _ => ⟨[(2, [], .int .i64 f), (3, [], .bool v), (9, [], .pointer (some ⟨(ν6 0), 0, none⟩)), (14, [], .int .i64 (((capN length) : Nat) : Int)), (69, [], .bool (((fst1 px (capN length) f v) : Int) != 0))], [(0, .fn 0 64 dbT), ((ν6 0), .cells [.int .i64 ((capN length : Nat) : Int), .slice (some ⟨gx, ox, none⟩) ((capN length + 63) / 64) cx] 26), (gx, .fn ox (ox + ((capN length + 63) / 64)) (u64s wsx ox))], [], by as_aux_lemma => kernel_rfl, trivial, fun ac wd hS => ?_⟩
      refine St.cond (b := (((fst1 px (capN length) f v) : Int) != 0)) hS (by as_aux_lemma => kernel_rfl) (fun h => absurd h (by first | (simp [hfl.2.1 (by assumption)]; done) | (obtain ⟨q1, q2, q3⟩ := hfl.1 (by assumption); simp [q1]; done) | (obtain ⟨q1, q2, q3⟩ := hfl.1 (by assumption); simp [q1]; omega) | (obtain ⟨q1, q2, q3⟩ := hfl.1 (by assumption); simp; omega))) (fun _ => ?_)
      refine wp_skip ?_
      refine pop_then ?_
      refine wp_seq ?_
      refine St.region_seq [⟨0, 0, 0⟩, ⟨0, 0, 0⟩, ⟨0, 0, 0⟩] [3, 9, 14, 15] [0, 1, 2] hS fun _ => ⟨[(3, [], .bool v), (9, [], .pointer (some ⟨(ν6 0), 0, none⟩)), (14, [], .int .i64 (((capN length) : Nat) : Int)), (15, [], .int .i64 (imax 0 f))], [(0, .fn 0 64 dbT), ((ν6 0), .cells [.int .i64 ((capN length : Nat) : Int), .slice (some ⟨gx, ox, none⟩) ((capN length + 63) / 64) cx] 26), (gx, .fn ox (ox + ((capN length + 63) / 64)) (u64s wsx ox))], [], by as_aux_lemma => kernel_rfl, trivial, fun ac wd hS => ?_⟩
      refine wp_block ?_
      refine St.loop (σ := Int) (fun (x : Int) => match x with | x15 => [(3, [], .bool v), (9, [], .pointer (some ⟨(ν6 0), 0, none⟩)), (14, [], .int .i64 (((capN length) : Nat) : Int)), (15, [], .int .i64 x15)]) (fun (x : Int) => match x with | x15 => [(0, .fn 0 64 dbT), ((ν6 0), .cells [.int .i64 ((capN length : Nat) : Int), .slice (some ⟨gx, ox, none⟩) ((capN length + 63) / 64) cx] 26), (gx, .fn ox (ox + ((capN length + 63) / 64)) (u64s wsx ox))]) (fun (x : Int) => match x with | x15 => []) (fun (x : Int) => match x with | x15 => (imax 0 f ≤ x15)) (fun (x : Int) => match x with | x15 => Int.toNat ((capN length : Int) - x15)) (imax 0 f) (by omega) hS ?_
      clear hS
      rintro x15 j0 ac wd hS
      replace hS : St _ 82 [(3, [], .bool v), (9, [], .pointer (some ⟨(ν6 0), 0, none⟩)), (14, [], .int .i64 (((capN length) : Nat) : Int)), (15, [], .int .i64 x15)] [(0, .fn 0 64 dbT), ((ν6 0), .cells [.int .i64 ((capN length : Nat) : Int), .slice (some ⟨gx, ox, none⟩) ((capN length + 63) / 64) cx] 26), (gx, .fn ox (ox + ((capN length + 63) / 64)) (u64s wsx ox))] [] ac wd := hS
      replace j0 : imax 0 f ≤ x15 := j0
      refine wp_seq ?_
      refine St.region_seq [⟨0, 0, 0⟩, ⟨0, 0, 0⟩, ⟨0, 0, 0⟩] [3, 9, 14, 15, 74] [0, 1, 2] hS fun _ => ⟨[(3, [], .bool v), (9, [], .pointer (some ⟨(ν6 0), 0, none⟩)), (14, [], .int .i64 (((capN length) : Nat) : Int)), (15, [], .int .i64 x15), (74, [], .bool (decide ((x15 : Int) < (((capN length) : Nat) : Int))))], [(0, .fn 0 64 dbT), ((ν6 0), .cells [.int .i64 ((capN length : Nat) : Int), .slice (some ⟨gx, ox, none⟩) ((capN length + 63) / 64) cx] 26), (gx, .fn ox (ox + ((capN length + 63) / 64)) (u64s wsx ox))], [], by as_aux_lemma => kernel_rfl, trivial, fun ac wd hS => ?_⟩
      refine St.cond (b := (decide ((x15 : Int) < (((capN length) : Nat) : Int)))) hS (by as_aux_lemma => kernel_rfl) (fun hb14 => ?_) (fun hb14 => ?_)
      · have hb14o := hb14
        try simp only [decide_eq_true_eq, decide_eq_false_iff_not, beq_iff_eq, bne_iff_ne, beq_eq_false_iff_ne, bne_eq_false_iff_eq, Bool.and_eq_true, Bool.or_eq_true, Bool.and_eq_false_iff, Bool.or_eq_false_iff, Bool.not_eq_true', Bool.not_eq_false', ne_eq, Int.not_lt, Int.not_le, Bool.true_and, Bool.false_and, Bool.and_true, Bool.and_false, Bool.or_true, Bool.or_false, Bool.true_or, Bool.false_or, Bool.not_true, Bool.not_false] at hb14
        refine wp_skip ?_
        refine pop_then ?_
        refine wp_seq ?_
        refine wp_block ?_
        refine wp_region_seq ?_
        refine St.ops 2 [⟨0, 0, 1⟩, ⟨0, 0, 0⟩] [3, 9, 14, 15, 77, 78] [0, 1, 2] hS fun _ => ⟨[(3, [], .bool v), (9, [], .pointer (some ⟨(ν6 0), 0, none⟩)), (14, [], .int .i64 (((capN length) : Nat) : Int)), (15, [], .int .i64 x15), (77, [], .agg #[.int .i64 ((capN length : Nat) : Int), .slice (some ⟨gx, ox, none⟩) ((capN length + 63) / 64) cx]), (78, [], .int .i64 x15)], [(0, .fn 0 64 dbT), ((ν6 0), .cells [.int .i64 ((capN length : Nat) : Int), .slice (some ⟨gx, ox, none⟩) ((capN length + 63) / 64) cx] 26), (gx, .fn ox (ox + ((capN length + 63) / 64)) (u64s wsx ox))], [(ν6 0) = (ν6 0), (ν6 0) = (ν6 0)], by as_aux_lemma => kernel_rfl, ⟨rfl, rfl, trivial⟩, fun ac wd hS => ?_⟩
        refine St.call 0 0 hS (f := 12) (args := #[.agg #[.int .i64 ((capN length : Nat) : Int), .slice (some ⟨gx, ox, none⟩) ((capN length + 63) / 64) cx], .int .i64 x15]) (obs := []) (by as_aux_lemma => kernel_rfl) trivial (by as_aux_lemma => kernel_rfl) (bits_Has gx ox cx ((capN length + 63) / 64) _ (capN length) x15 px _ (hS.mem.heap _ (List.mem_of_getElem? (i := 2) rfl)) (by first | assumption | exact capN_le _) (by first | assumption | exact capN_le _)) ?_
        rintro _ wd ⟨rfl, hF⟩
        refine ⟨.bool (hasV px (capN length) x15), rfl, ?_⟩
        replace hS := St.put (d := 79) (v := .bool (hasV px (capN length) x15)) (hS.to (hS.mem.keep0 hF)) (by decide)
        clear hF
        refine St.ops 2 [⟨0, 0, 0⟩, ⟨0, 0, 0⟩] [3, 9, 14, 15, 81] [0, 1, 2] hS fun _ => ⟨[(3, [], .bool v), (9, [], .pointer (some ⟨(ν6 0), 0, none⟩)), (14, [], .int .i64 (((capN length) : Nat) : Int)), (15, [], .int .i64 x15), (81, [], .bool ((hasV px (capN length) x15) == v))], [(0, .fn 0 64 dbT), ((ν6 0), .cells [.int .i64 ((capN length : Nat) : Int), .slice (some ⟨gx, ox, none⟩) ((capN length + 63) / 64) cx] 26), (gx, .fn ox (ox + ((capN length + 63) / 64)) (u64s wsx ox))], [], by as_aux_lemma => kernel_rfl, trivial, fun ac wd hS => ?_⟩
        refine list_nil_seq ?_
        refine St.cond (b := ((hasV px (capN length) x15) == v)) hS (by as_aux_lemma => kernel_rfl) (fun hb15 => ?_) (fun hb15 => ?_)
        · have hb15o := hb15
          try simp only [decide_eq_true_eq, decide_eq_false_iff_not, beq_iff_eq, bne_iff_ne, beq_eq_false_iff_ne, bne_eq_false_iff_eq, Bool.and_eq_true, Bool.or_eq_true, Bool.and_eq_false_iff, Bool.or_eq_false_iff, Bool.not_eq_true', Bool.not_eq_false', ne_eq, Int.not_lt, Int.not_le, Bool.true_and, Bool.false_and, Bool.and_true, Bool.and_false, Bool.or_true, Bool.or_false, Bool.true_or, Bool.false_or, Bool.not_true, Bool.not_false] at hb15
          refine St.region_seq [⟨0, 0, 0⟩] [8] [0] hS fun _ => ⟨[(8, [], .bool false)], [(0, .fn 0 64 dbT)], [], by as_aux_lemma => kernel_rfl, trivial, fun ac wd hS => ?_⟩
          refine wp_ret ?_
          refine pop_block_ret ?_
          refine pop_then_ret ?_
          refine pop_then_ret ?_
          refine pop_block_ret ?_
          refine pop_then_ret ?_
          refine St.ret 0 hS (v := .bool false) (obs := []) (by as_aux_lemma => kernel_rfl) trivial fun hw => ?_
          refine ⟨retd (vbool ?_), hw.fr⟩
          all_goals (first | rfl | (simp_all; done))
        · have hb15o := hb15
          try simp only [decide_eq_true_eq, decide_eq_false_iff_not, beq_iff_eq, bne_iff_ne, beq_eq_false_iff_ne, bne_eq_false_iff_eq, Bool.and_eq_true, Bool.or_eq_true, Bool.and_eq_false_iff, Bool.or_eq_false_iff, Bool.not_eq_true', Bool.not_eq_false', ne_eq, Int.not_lt, Int.not_le, Bool.true_and, Bool.false_and, Bool.and_true, Bool.and_false, Bool.or_true, Bool.or_false, Bool.true_or, Bool.false_or, Bool.not_true, Bool.not_false] at hb15
          refine wp_skip ?_
          refine pop_block ?_
          refine pop_then ?_
          have ew16 : (IntKind.wrap .i64 (x15 + 1)) = (x15 + 1) := i64_in (x := (x15 + 1)) (by omega)
          refine St.region [⟨0, 0, 0⟩, ⟨0, 0, 0⟩, ⟨0, 0, 0⟩] [3, 9, 14, 15] [0, 1, 2] hS fun _ => ⟨[(3, [], .bool v), (9, [], .pointer (some ⟨(ν6 0), 0, none⟩)), (14, [], .int .i64 (((capN length) : Nat) : Int)), (15, [], .int .i64 (IntKind.wrap .i64 (x15 + 1)))], [(0, .fn 0 64 dbT), ((ν6 0), .cells [.int .i64 ((capN length : Nat) : Int), .slice (some ⟨gx, ox, none⟩) ((capN length + 63) / 64) cx] 26), (gx, .fn ox (ox + ((capN length + 63) / 64)) (u64s wsx ox))], [], by as_aux_lemma => kernel_rfl, trivial, fun ac wd hS => ?_⟩
          simp only [ew16] at hS
          exact pop_then ⟨(x15 + 1), (by first | omega | assumption | (simp; done) | (simp; omega)), (by first | (simp only []; omega) | omega), hS⟩
      · have hb14o := hb14
        try simp only [decide_eq_true_eq, decide_eq_false_iff_not, beq_iff_eq, bne_iff_ne, beq_eq_false_iff_ne, bne_eq_false_iff_eq, Bool.and_eq_true, Bool.or_eq_true, Bool.and_eq_false_iff, Bool.or_eq_false_iff, Bool.not_eq_true', Bool.not_eq_false', ne_eq, Int.not_lt, Int.not_le, Bool.true_and, Bool.false_and, Bool.and_true, Bool.and_false, Bool.or_true, Bool.or_false, Bool.true_or, Bool.false_or, Bool.not_true, Bool.not_false] at hb14
        refine wp_exit ?_
        refine pop_then_exit ?_
        refine pop_then_exit ?_
        refine pop_block_hit ?_
        refine pop_then ?_
        refine St.region_seq [⟨0, 0, 0⟩] [8] [0] hS fun _ => ⟨[(8, [], .bool true)], [(0, .fn 0 64 dbT)], [], by as_aux_lemma => kernel_rfl, trivial, fun ac wd hS => ?_⟩
        refine wp_ret ?_
        refine St.ret 0 hS (v := .bool true) (obs := []) (by as_aux_lemma => kernel_rfl) trivial fun hw => ?_
        refine ⟨retd rfl, hw.fr⟩

end Go.Proofs.YtdjdgdkkhadkoaaDoor.K
