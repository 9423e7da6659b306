import Derived.Test.YtdjdgdkkhadkoaaDoorBt
import Derived.Test.YtdjdgdkkhadkoaaDoorKg
import Derived.Test.YtdjdgdkkhadkoaaDoorProg
namespace Go.Proofs.YtdjdgdkkhadkoaaDoor.K
set_option linter.unusedVariables false
set_option linter.unusedSimpArgs false

set_option maxRecDepth 100000 in
set_option maxHeartbeats 4000000 in
theorem bits_Len_ (g : Nat) (o : Nat) (c : Nat) (nw : Nat) (ws : Nat → Nat) (n : Nat) (w : World) (hh0 : HE.holds w g (.fn o (o + nw) (u64s ws o))) :
    Calls Tryd.prog 11 #[.agg #[.int .i64 ((n : Nat) : Int), .slice (some ⟨g, o, none⟩) nw c]] w fun e w' => e = .returned (.int .i64 ((n : Nat) : Int)) ∧ Fr w w' [] [] := by
  refine enter (args := [.agg #[.int .i64 ((n : Nat) : Int), .slice (some ⟨g, o, none⟩) nw c]]) (A := []) Tryd.func11 rfl 5 rfl [(g, .fn o (o + nw) (u64s ws o))] (WS.startL ⟨⟨rfl, hh0⟩, trivial⟩) fun ac hS => ?_
  refine St.region_seq [⟨0, 0, 0⟩, ⟨0, 0, 0⟩] [1] [0, 1] hS fun ν1 => ⟨[(1, [], .pointer (some ⟨(ν1 0), 0, none⟩))], [(g, .fn o (o + nw) (u64s ws o)), ((ν1 0), .cells [.int .i64 ((n : Nat) : Int), .slice (some ⟨g, o, none⟩) nw c] 26)], [], by as_aux_lemma => kernel_rfl, trivial, fun ac wd hS => ?_⟩
  refine St.region_seq [⟨0, 0, 0⟩, ⟨0, 0, 1⟩, ⟨0, 0, 0⟩] [2] [] hS fun _ => ⟨[(2, [], .int .i64 ((n : Nat) : Int))], [], [(ν1 0) = (ν1 0)], by as_aux_lemma => kernel_rfl, ⟨rfl, trivial⟩, fun ac wd hS => ?_⟩
  refine wp_ret ?_
  refine St.ret 0 hS (v := .int .i64 ((n : Nat) : Int)) (obs := []) (by as_aux_lemma => kernel_rfl) trivial fun hw => ?_
  refine ⟨retd rfl, hw.fr⟩

set_option maxRecDepth 100000 in
set_option maxHeartbeats 4000000 in
theorem bits_Has (g : Nat) (o : Nat) (c : Nat) (nw : Nat) (ws : Nat → Nat) (n : Nat) (i : Int) (p : Nat → Bool) (w : World) (hh0 : HE.holds w g (.fn o (o + nw) (u64s ws o))) (hW : Words ws nw n p) (hn : n ≤ 1048576) :
    Calls Tryd.prog 12 #[.agg #[.int .i64 ((n : Nat) : Int), .slice (some ⟨g, o, none⟩) nw c], .int .i64 i] w fun e w' => e = .returned (.bool (hasV p n i)) ∧ Fr w w' [] [] := by
  have hnw := hW.many
  have hsm := hW.small
  refine enter (args := [.agg #[.int .i64 ((n : Nat) : Int), .slice (some ⟨g, o, none⟩) nw c], .int .i64 i]) (A := []) Tryd.func12 rfl 26 rfl [(g, .fn o (o + nw) (u64s ws o))] (WS.startL ⟨⟨rfl, hh0⟩, trivial⟩) fun ac hS => ?_
  refine St.region_seq [⟨0, 0, 0⟩, ⟨0, 0, 0⟩] [1, 2] [0, 1] hS fun ν1 => ⟨[(1, [], .int .i64 i), (2, [], .pointer (some ⟨(ν1 0), 0, none⟩))], [(g, .fn o (o + nw) (u64s ws o)), ((ν1 0), .cells [.int .i64 ((n : Nat) : Int), .slice (some ⟨g, o, none⟩) nw c] 26)], [], by as_aux_lemma => kernel_rfl, trivial, fun ac wd hS => ?_⟩
  refine wp_region_seq ?_
  refine St.ops 9 [⟨0, 0, 0⟩, ⟨0, 0, 0⟩, ⟨0, 0, 0⟩, ⟨3, 0, 0⟩, ⟨3, 0, 0⟩, ⟨3, 0, 1⟩, ⟨3, 0, 0⟩, ⟨0, 8, 0⟩, ⟨0, 0, 0⟩] [1, 2, 13] [0, 1] hS fun _ => ⟨[(1, [], .int .i64 i), (2, [], .pointer (some ⟨(ν1 0), 0, none⟩)), (13, [], .bool ((decide ((0 : Int) ≤ i)) && (decide ((i : Int) < ((n : Nat) : Int)))))], [(g, .fn o (o + nw) (u64s ws o)), ((ν1 0), .cells [.int .i64 ((n : Nat) : Int), .slice (some ⟨g, o, none⟩) nw c] 26)], [((((decide ((0 : Int) ≤ i)) = true) ∧ True) → AllP [(ν1 0) = (ν1 0)])], by as_aux_lemma => kernel_rfl, ⟨(by first | omega | (intro _; exact ⟨rfl, trivial⟩) | (simp; omega) | (simp_all; done) | (simp_all; omega)), trivial⟩, fun ac wd hS => ?_⟩
  rcases Bool.eq_false_or_eq_true ((decide ((0 : Int) ≤ i)) && (decide ((i : Int) < ((n : Nat) : Int)))) with hg1 | hg1
  · rw [hg1] at hS
    have hg1o := hg1
    try simp only [decide_eq_true_eq, decide_eq_false_iff_not, beq_iff_eq, bne_iff_ne, beq_eq_false_iff_ne, bne_eq_false_iff_eq, Bool.and_eq_true, Bool.or_eq_true, Bool.and_eq_false_iff, Bool.or_eq_false_iff, Bool.not_eq_true', Bool.not_eq_false', ne_eq, Int.not_lt, Int.not_le, Bool.true_and, Bool.false_and, Bool.and_true, Bool.and_false, Bool.or_true, Bool.or_false, Bool.true_or, Bool.false_or, Bool.not_true, Bool.not_false] at hg1
    have ew2 : (IntKind.wrap .i64 (Int.tdiv i 64)) = (i / 64) := quo_in (x := i) (d := 64) (by omega) (by omega) (by omega)
    have ew3 : ((ws (o + Int.toNat (i / 64) * 1 - o) : Nat) : Int) = ((ws (Int.toNat (i / 64)) : Nat) : Int) := by rw [Nat.mul_one, Nat.add_sub_cancel_left]
    have ew4 : (Int.tmod i 64) = (i % 64) := rem_in (x := i) (d := 64) (by omega)
    have ew5 : (Int.fdiv ((ws (Int.toNat (i / 64)) : Nat) : Int) (2 ^ (min (Int.toNat (i % 64)) 64))) = (((ws (Int.toNat (i / 64))) / 2 ^ Int.toNat (i % 64) : Nat) : Int) := shr_u (a := ws (Int.toNat (i / 64))) (r := (i % 64)) (by omega) (by omega)
    have ew6 : (iand .u64 (((ws (Int.toNat (i / 64))) / 2 ^ Int.toNat (i % 64) : Nat) : Int) 1) = ((((ws (Int.toNat (i / 64))) / 2 ^ Int.toNat (i % 64)) &&& 1 : Nat) : Int) := iand_u (a := (ws (Int.toNat (i / 64))) / 2 ^ Int.toNat (i % 64)) (b := 1) (by first | exact hW.small _ (by rw [hW.many]; omega) | exact flip_lt _ | (exact Nat.lt_of_le_of_lt (Nat.div_le_self _ _) (flip_lt _)) | (exact Nat.lt_of_le_of_lt (Nat.div_le_self _ _) (hW.small _ (by omega))) | (exact mkM_lt (by omega)) | omega) (by first | exact hW.small _ (by rw [hW.many]; omega) | exact flip_lt _ | (exact Nat.lt_of_le_of_lt (Nat.div_le_self _ _) (flip_lt _)) | (exact Nat.lt_of_le_of_lt (Nat.div_le_self _ _) (hW.small _ (by omega))) | (exact mkM_lt (by omega)) | omega)
    refine St.ops 13 [⟨1, 0, 0⟩, ⟨1, 0, 1⟩, ⟨1, 0, 0⟩, ⟨1, 0, 0⟩, ⟨1, 2, 0⟩, ⟨1, 0, 0⟩, ⟨1, 0, 0⟩, ⟨1, 0, 0⟩, ⟨1, 1, 0⟩, ⟨1, 0, 0⟩, ⟨1, 0, 0⟩, ⟨0, 7, 0⟩, ⟨0, 0, 0⟩] [4] [] hS fun _ => ⟨[(4, [], .bool (((iand .u64 (Int.fdiv ((ws (o + Int.toNat (IntKind.wrap .i64 (Int.tdiv i 64)) * 1 - o) : Nat) : Int) (2 ^ (min (Int.toNat (Int.tmod i 64)) 64))) 1) : Int) == 1))], [], [(.bool true : Value) = .bool true, (.bool true : Value) = .bool true, (.bool true : Value) = .bool true, (.bool true : Value) = .bool true, 0 ≤ (Int.tmod i 64), (.bool true : Value) = .bool true, (.bool true : Value) = .bool true, (.bool true : Value) = .bool true, g = g, o ≤ o + Int.toNat (IntKind.wrap .i64 (Int.tdiv i 64)) * 1 ∧ o + Int.toNat (IntKind.wrap .i64 (Int.tdiv i 64)) * 1 < (o + nw), (.bool true : Value) = .bool true, 0 ≤ (IntKind.wrap .i64 (Int.tdiv i 64)) ∧ (IntKind.wrap .i64 (Int.tdiv i 64)) < ((nw : Nat) : Int), (.bool true : Value) = .bool true, (.bool true : Value) = .bool true, (.bool true : Value) = .bool true, (ν1 0) = (ν1 0), (.bool true : Value) = .bool true], by as_aux_lemma => kernel_rfl, ⟨rfl, rfl, rfl, rfl, (by (try simp only [ew2, ew3, ew4, ew5, ew6]); first | omega | (intro _; exact ⟨rfl, trivial⟩) | (simp; omega) | (simp_all; done) | (simp_all; omega)), rfl, rfl, rfl, rfl, (by (try simp only [ew2, ew3, ew4, ew5, ew6]); first | omega | (intro _; exact ⟨rfl, trivial⟩) | (simp; omega) | (simp_all; done) | (simp_all; omega)), rfl, (by (try simp only [ew2, ew3, ew4, ew5, ew6]); first | omega | (intro _; exact ⟨rfl, trivial⟩) | (simp; omega) | (simp_all; done) | (simp_all; omega)), rfl, rfl, rfl, rfl, rfl, trivial⟩, fun ac wd hS => ?_⟩
    simp only [ew2, ew3, ew4, ew5, ew6] at hS
    refine list_nil_seq ?_
    refine wp_ret ?_
    refine St.ret 0 hS (v := .bool ((((((ws (Int.toNat (i / 64))) / 2 ^ Int.toNat (i % 64)) &&& 1 : Nat) : Int) : Int) == 1)) (obs := []) (by as_aux_lemma => kernel_rfl) trivial fun hw => ?_
    refine ⟨retd (vbool ?_), hw.fr⟩
    all_goals (first | (exact has_eq hW (by omega) (by omega)) | exact has_no (by omega))
  · rw [hg1] at hS
    have hg1o := hg1
    try simp only [decide_eq_true_eq, decide_eq_false_iff_not, beq_iff_eq, bne_iff_ne, beq_eq_false_iff_ne, bne_eq_false_iff_eq, Bool.and_eq_true, Bool.or_eq_true, Bool.and_eq_false_iff, Bool.or_eq_false_iff, Bool.not_eq_true', Bool.not_eq_false', ne_eq, Int.not_lt, Int.not_le, Bool.true_and, Bool.false_and, Bool.and_true, Bool.and_false, Bool.or_true, Bool.or_false, Bool.true_or, Bool.false_or, Bool.not_true, Bool.not_false] at hg1
    refine St.ops 13 [⟨2, 0, 0⟩, ⟨2, 0, 0⟩, ⟨2, 0, 0⟩, ⟨2, 0, 0⟩, ⟨2, 0, 0⟩, ⟨2, 0, 0⟩, ⟨2, 0, 0⟩, ⟨2, 0, 0⟩, ⟨2, 0, 0⟩, ⟨2, 0, 0⟩, ⟨2, 0, 0⟩, ⟨0, 6, 0⟩, ⟨0, 0, 0⟩] [4] [] hS fun _ => ⟨[(4, [], .bool false)], [], [(.bool false : Value) = .bool false, (.bool false : Value) = .bool (!true), (.bool false : Value) = .bool (!true), (.bool false : Value) = .bool (!true), (.bool false : Value) = .bool (!true), (.bool false : Value) = .bool (!true), (.bool false : Value) = .bool (!true), (.bool false : Value) = .bool (!true), (.bool false : Value) = .bool (!true), (.bool false : Value) = .bool (!true), (.bool false : Value) = .bool (!true), (.bool false : Value) = .bool (!true)], by as_aux_lemma => kernel_rfl, ⟨rfl, rfl, rfl, rfl, rfl, rfl, rfl, rfl, rfl, rfl, rfl, rfl, trivial⟩, fun ac wd hS => ?_⟩
    refine list_nil_seq ?_
    refine wp_ret ?_
    refine St.ret 0 hS (v := .bool false) (obs := []) (by as_aux_lemma => kernel_rfl) trivial fun hw => ?_
    refine ⟨retd (vbool ?_), hw.fr⟩
    all_goals (first | (exact has_eq hW (by omega) (by omega)) | exact has_no (by omega))

set_option maxRecDepth 100000 in
set_option maxHeartbeats 4000000 in
theorem bits_within (g : Nat) (o : Nat) (c : Nat) (nw : Nat) (ws : Nat → Nat) (n : Nat) (f : Int) (k : Int) (w : World) (hh0 : HE.holds w g (.fn o (o + nw) (u64s ws o))) (hn : n ≤ 1048576) :
    Calls Tryd.prog 29 #[.agg #[.int .i64 ((n : Nat) : Int), .slice (some ⟨g, o, none⟩) nw c], .int .i64 f, .int .i64 k] w fun e w' => e = .returned (.bool (wth n f k)) ∧ Fr w w' [] [] := by
  refine enter (args := [.agg #[.int .i64 ((n : Nat) : Int), .slice (some ⟨g, o, none⟩) nw c], .int .i64 f, .int .i64 k]) (A := []) Tryd.func29 rfl 27 rfl [(g, .fn o (o + nw) (u64s ws o))] (WS.startL ⟨⟨rfl, hh0⟩, trivial⟩) fun ac hS => ?_
  refine St.region_seq [⟨0, 0, 0⟩, ⟨0, 0, 0⟩] [1, 2, 3] [0, 1] hS fun ν1 => ⟨[(1, [], .int .i64 f), (2, [], .int .i64 k), (3, [], .pointer (some ⟨(ν1 0), 0, none⟩))], [(g, .fn o (o + nw) (u64s ws o)), ((ν1 0), .cells [.int .i64 ((n : Nat) : Int), .slice (some ⟨g, o, none⟩) nw c] 26)], [], by as_aux_lemma => kernel_rfl, trivial, fun ac wd hS => ?_⟩
  refine wp_region_seq ?_
  refine St.ops 13 [⟨0, 0, 0⟩, ⟨0, 0, 0⟩, ⟨0, 0, 0⟩, ⟨3, 0, 0⟩, ⟨3, 0, 0⟩, ⟨0, 8, 0⟩, ⟨0, 0, 0⟩, ⟨3, 0, 0⟩, ⟨3, 0, 0⟩, ⟨3, 0, 1⟩, ⟨3, 0, 0⟩, ⟨0, 8, 0⟩, ⟨0, 0, 0⟩] [1, 2, 3, 19] [0, 1] hS fun _ => ⟨[(1, [], .int .i64 f), (2, [], .int .i64 k), (3, [], .pointer (some ⟨(ν1 0), 0, none⟩)), (19, [], .bool (((decide ((0 : Int) ≤ f)) && (decide ((0 : Int) ≤ k))) && (decide ((k : Int) ≤ ((n : Nat) : Int)))))], [(g, .fn o (o + nw) (u64s ws o)), ((ν1 0), .cells [.int .i64 ((n : Nat) : Int), .slice (some ⟨g, o, none⟩) nw c] 26)], [(((((decide ((0 : Int) ≤ f)) && (decide ((0 : Int) ≤ k))) = true) ∧ True) → AllP [(ν1 0) = (ν1 0)])], by as_aux_lemma => kernel_rfl, ⟨(by first | omega | (intro _; exact ⟨rfl, trivial⟩) | (simp; omega) | (simp_all; done) | (simp_all; omega)), trivial⟩, fun ac wd hS => ?_⟩
  rcases Bool.eq_false_or_eq_true (((decide ((0 : Int) ≤ f)) && (decide ((0 : Int) ≤ k))) && (decide ((k : Int) ≤ ((n : Nat) : Int)))) with hg1 | hg1
  · rw [hg1] at hS
    have hg1o := hg1
    try simp only [decide_eq_true_eq, decide_eq_false_iff_not, beq_iff_eq, bne_iff_ne, beq_eq_false_iff_ne, bne_eq_false_iff_eq, Bool.and_eq_true, Bool.or_eq_true, Bool.and_eq_false_iff, Bool.or_eq_false_iff, Bool.not_eq_true', Bool.not_eq_false', ne_eq, Int.not_lt, Int.not_le, Bool.true_and, Bool.false_and, Bool.and_true, Bool.and_false, Bool.or_true, Bool.or_false, Bool.true_or, Bool.false_or, Bool.not_true, Bool.not_false] at hg1
    have ew2 : (IntKind.wrap .i64 (((n : Nat) : Int) - k)) = (((n : Nat) : Int) - k) := i64_in (x := (((n : Nat) : Int) - k)) (by omega)
    refine St.ops 8 [⟨1, 0, 0⟩, ⟨1, 0, 0⟩, ⟨1, 0, 1⟩, ⟨1, 0, 0⟩, ⟨1, 0, 0⟩, ⟨1, 0, 0⟩, ⟨0, 7, 0⟩, ⟨0, 0, 0⟩] [6] [] hS fun _ => ⟨[(6, [], .bool (decide ((f : Int) ≤ (IntKind.wrap .i64 (((n : Nat) : Int) - k)))))], [], [(.bool true : Value) = .bool true, (.bool true : Value) = .bool true, (.bool true : Value) = .bool true, (.bool true : Value) = .bool true, (.bool true : Value) = .bool true, (ν1 0) = (ν1 0), (.bool true : Value) = .bool true, (.bool true : Value) = .bool true], by as_aux_lemma => kernel_rfl, ⟨rfl, rfl, rfl, rfl, rfl, rfl, rfl, rfl, trivial⟩, fun ac wd hS => ?_⟩
    simp only [ew2] at hS
    refine list_nil_seq ?_
    refine wp_ret ?_
    refine St.ret 0 hS (v := .bool (decide ((f : Int) ≤ (((n : Nat) : Int) - k)))) (obs := []) (by as_aux_lemma => kernel_rfl) trivial fun hw => ?_
    refine ⟨retd (vbool ?_), hw.fr⟩
    all_goals (first | rfl | (simp [wth]; done) | (simp [wth]; omega) | (simp_all [wth]; done) | (simp_all [wth]; omega))
  · rw [hg1] at hS
    have hg1o := hg1
    try simp only [decide_eq_true_eq, decide_eq_false_iff_not, beq_iff_eq, bne_iff_ne, beq_eq_false_iff_ne, bne_eq_false_iff_eq, Bool.and_eq_true, Bool.or_eq_true, Bool.and_eq_false_iff, Bool.or_eq_false_iff, Bool.not_eq_true', Bool.not_eq_false', ne_eq, Int.not_lt, Int.not_le, Bool.true_and, Bool.false_and, Bool.and_true, Bool.and_false, Bool.or_true, Bool.or_false, Bool.true_or, Bool.false_or, Bool.not_true, Bool.not_false] at hg1
    refine St.ops 8 [⟨2, 0, 0⟩, ⟨2, 0, 0⟩, ⟨2, 0, 0⟩, ⟨2, 0, 0⟩, ⟨2, 0, 0⟩, ⟨2, 0, 0⟩, ⟨0, 6, 0⟩, ⟨0, 0, 0⟩] [6] [] hS fun _ => ⟨[(6, [], .bool false)], [], [(.bool false : Value) = .bool false, (.bool false : Value) = .bool (!true), (.bool false : Value) = .bool (!true), (.bool false : Value) = .bool (!true), (.bool false : Value) = .bool (!true), (.bool false : Value) = .bool (!true), (.bool false : Value) = .bool (!true)], by as_aux_lemma => kernel_rfl, ⟨rfl, rfl, rfl, rfl, rfl, rfl, rfl, trivial⟩, fun ac wd hS => ?_⟩
    refine list_nil_seq ?_
    refine wp_ret ?_
    refine St.ret 0 hS (v := .bool false) (obs := []) (by as_aux_lemma => kernel_rfl) trivial fun hw => ?_
    refine ⟨retd (vbool ?_), hw.fr⟩
    all_goals (first | rfl | (simp [wth]; done) | (simp [wth]; omega) | (simp_all [wth]; done) | (simp_all [wth]; omega))

set_option maxRecDepth 100000 in
set_option maxHeartbeats 4000000 in
theorem bits_mask (f : Int) (k : Int) (w : World) (hf : 0 ≤ f) (hk : 1 ≤ k) :
    Calls Tryd.prog 30 #[.int .i64 f, .int .i64 k] w fun e w' => e = .returned (.tuple #[.int .u64 ((mkM (f % 64).toNat (imin k (64 - f % 64)).toNat : Nat) : Int), .int .i64 (imin k (64 - f % 64))]) ∧ Fr w w' [] [] := by
  have hm : 1 ≤ imin k (64 - f % 64) ∧ imin k (64 - f % 64) ≤ 64 - f % 64 := by unfold imin; split <;> omega
  refine enter (args := [.int .i64 f, .int .i64 k]) (A := []) Tryd.func30 rfl 19 rfl [] (WS.start (AllAr.nil w)) fun ac hS => ?_
  refine St.region_seq [⟨0, 0, 0⟩, ⟨0, 0, 0⟩] [0, 1] [] hS fun _ => ⟨[(0, [], .int .i64 f), (1, [], .int .i64 k)], [], [], by as_aux_lemma => kernel_rfl, trivial, fun ac wd hS => ?_⟩
  have ew1 : (Int.tmod f 64) = (f % 64) := rem_in (x := f) (d := 64) (by omega)
  have ew2 : (IntKind.wrap .i64 (64 - (f % 64))) = (64 - (f % 64)) := i64_in (x := (64 - (f % 64))) (by omega)
  refine St.region_seq [⟨0, 0, 0⟩, ⟨0, 0, 0⟩, ⟨0, 0, 0⟩, ⟨0, 0, 0⟩, ⟨0, 0, 0⟩, ⟨0, 0, 0⟩] [0, 6] [] hS fun _ => ⟨[(0, [], .int .i64 f), (6, [], .int .i64 (imin k (IntKind.wrap .i64 (64 - (Int.tmod f 64)))))], [], [], by as_aux_lemma => kernel_rfl, trivial, fun ac wd hS => ?_⟩
  simp only [ew1, ew2] at hS
  have ew3 : (Int.tmod f 64) = (f % 64) := rem_in (x := f) (d := 64) (by omega)
  refine St.region_seq [⟨0, 0, 0⟩, ⟨0, 1, 0⟩, ⟨0, 0, 0⟩, ⟨0, 0, 0⟩, ⟨0, 0, 0⟩, ⟨0, 1, 0⟩, ⟨0, 0, 0⟩, ⟨0, 0, 0⟩, ⟨0, 0, 0⟩] [4, 5] [] hS fun _ => ⟨[(4, [], .int .u64 (IntKind.wrap .u64 ((IntKind.wrap .u64 ((IntKind.wrap .u64 (1 * 2 ^ (min (Int.toNat (imin k (64 - (f % 64)))) 64))) - 1)) * 2 ^ (min (Int.toNat (Int.tmod f 64)) 64)))), (5, [], .int .i64 (imin k (64 - (f % 64))))], [], [0 ≤ (Int.tmod f 64), 0 ≤ (imin k (64 - (f % 64)))], by as_aux_lemma => kernel_rfl, ⟨(by (try simp only [ew3]); first | omega | (intro _; exact ⟨rfl, trivial⟩) | (simp; omega) | (simp_all; done) | (simp_all; omega)), (by (try simp only [ew3]); first | omega | (intro _; exact ⟨rfl, trivial⟩) | (simp; omega) | (simp_all; done) | (simp_all; omega)), trivial⟩, fun ac wd hS => ?_⟩
  simp only [ew3] at hS
  refine wp_ret ?_
  refine St.ret 0 hS (v := .tuple #[.int .u64 (IntKind.wrap .u64 ((IntKind.wrap .u64 ((IntKind.wrap .u64 (1 * 2 ^ (min (Int.toNat (imin k (64 - (f % 64)))) 64))) - 1)) * 2 ^ (min (Int.toNat (f % 64)) 64))), .int .i64 (imin k (64 - (f % 64)))]) (obs := []) (by as_aux_lemma => kernel_rfl) trivial fun hw => ?_
  refine ⟨retd (tuple2 (vint ?_) (vint ?_)), hw.fr⟩
  all_goals (first | rfl | exact mask_eq (x := f % 64) (k := imin k (64 - f % 64)) (by omega) (by omega) (by omega) (by omega))

end Go.Proofs.YtdjdgdkkhadkoaaDoor.K
